/- Rows: what all have in common, where no package variable is laid (from XRow). Slices of the guard laws' operations that came in. -/
import Derived.Test.YtldmlmojokicaaaRows
import Derived.Test.YtldmlmojokicaaaMade
import Derived.WalkKit
import Derived.ProofKit
import Derived.OpenShut
import Derived.ChangeSame
import Derived.ChangeVars
import Derived.JoinedOf
import Derived.RowKit
import Derived.RowKitTokens
import Derived.LaidLaws
import Derived.LaidHandle
import Derived.Stop.Joined
import Derived.Deep.Slices
import Derived.Deep.Fields
import Derived.Below
import Derived.Carry
import Derived.Test.YtldmlmojokicaaaGop
namespace Go.Proofs.Ytldmlmojokicaaa
open Go.ChangeShapes Go.WideShapes Go.RowKit Go.Deep

theorem rowOwn : ownKnob Try.prog.godebug = none := by kernel_rfl
theorem rowLaidOut : laidOutB Try.prog = true := by kernel_rfl
theorem pick_list {α : Type} {n : Nat} {p : Nat → α → Prop} (d : α) (h : ∀ i, i < n → ∃ x, p i x) : ∃ l : List α, l.length = n ∧ ∀ i, i < n → p i (l.getD i d) := by
  induction n with
  | zero => exact ⟨[], rfl, fun i hi => by omega⟩
  | succ n ih =>
    obtain ⟨l, hl, hp⟩ := ih (fun i hi => h i (by omega))
    obtain ⟨x, hx⟩ := h n (by omega)
    refine ⟨l ++ [x], by simp [hl], fun i hi => ?_⟩
    by_cases hin : i < n
    · have := hp i hin
      rw [List.getD, List.getElem?_append_left (by omega)]
      exact this
    · obtain rfl : i = n := by omega
      rw [List.getD, List.getElem?_append_right (by omega)]
      simpa [hl] using hx
theorem u64_bd {v : Int} (h : (Lit.int .u64 v).wf = true) : ∃ n : Nat, v = (n : Int) ∧ n < 2 ^ 64 := by
  simp [Lit.wf, IntKind.min, IntKind.max, IntKind.signed, IntKind.bits] at h
  exact ⟨v.toNat, by omega, by omega⟩
theorem addb (b off j : Nat) : (⟨b, off, none⟩ : Addr).add j = ⟨b, off + j, none⟩ := by
  unfold Addr.add; split <;> simp_all
theorem add_add (a : Addr) (i j : Nat) : (a.add i).add j = a.add (i + j) := by
  unfold Addr.add; split <;> split <;> simp_all <;> omega
section
variable {H : Type} {enc : TypeId × Value → H} {w : World} {base base' : Nat} {spare : Nat → Bool} {held : Bool}
theorem field_at {P : Program} {fs : Array Field} {cs : List Value} {n : Nat} {ys : List (DataW H × List MemPlace)} (hone : oneCellFields P fs = true)
    (hf : ∀ (i : Nat) (f : Field), fs[i]? = some f → DataW.trod enc P w base spare held n f.type ((cs.drop f.offset).take (P.cellsOf f.type)) = ys[i]?) (i : Nat) (f : Field) (h : fs[i]? = some f) :
    DataW.trod enc P w base spare held n f.type ((cs.drop i).take 1) = ys[i]? := by
  have g := hf i f h
  obtain ⟨o, k⟩ := hone_of hone i f h
  rw [o, k] at g
  exact g
set_option maxRecDepth 100000 in
/-- A slice of Puts that came in, as the walks take it. -/
theorem open_puts {v : Value} {d : DataW H} {p : List MemPlace} (hv : Value.okWide Try.prog w .any base' 22 v) (h : DataW.Trod enc Try.prog w base spare held 22 v d p) :
    ∃ (a : Option Addr) (c : Nat) (l : List (Int × Int × Nat)), v = .slice a l.length c ∧ Ps w a l ∧ l.length ≤ 9223372036854775807 := by
  obtain ⟨a0, len, cap, rfl⟩ := okWide_slice Try.underlying22 hv
  obtain ⟨fuel, hf⟩ := h
  rcases open_slice Try.underlying22 hf with ⟨hcs, _⟩ | ⟨a, l, c, m, n, D, Pl, hcs, hb, hl, hm, hmm, hx, hi⟩
  · simp [Value.cells] at hcs
    obtain ⟨rfl, rfl, rfl⟩ := hcs
    exact ⟨none, 0, [], rfl, .inl rfl, Nat.zero_le _⟩
  · simp [Value.cells] at hcs
    obtain ⟨rfl, rfl, rfl⟩ := hcs
    have hc3 : Try.prog.cellsOf 59 = 3 := by kernel_rfl
    have key : ∀ i, i < len → ∃ x : Int × Int × Nat, x.2.2 < 2 ^ 64 ∧ w.cell? (a.add (i * 3)) = some (.int .i64 x.1) ∧ w.cell? (a.add (i * 3 + 1)) = some (.int .i64 x.2.1) ∧ w.cell? (a.add (i * 3 + 2)) = some (.int .u64 (x.2.2 : Int)) := by
      intro i hil
      obtain ⟨cs', hc, ht'⟩ := hi i (by rw [hmm]; split <;> omega)
      rw [hc3] at hc
      obtain ⟨ys, n', hn', hy, hlen, hyl, hf'⟩ := DataW.trod_struct Try.underlying59 ht'
      rw [hc3] at hlen
      obtain ⟨_, hcl, hat⟩ := World.cells?_some hc
      match cs', hlen, ys, hyl with
      | [c0, c1, c2], _, [y0, y1, y2], _ =>
        have g0 : DataW.trod enc Try.prog w base spare held n' 3 [c0] = some y0 := by simpa using field_at (by kernel_rfl) hf' 0 _ rfl
        have g1 : DataW.trod enc Try.prog w base spare held n' 3 [c1] = some y1 := by simpa using field_at (by kernel_rfl) hf' 1 _ rfl
        have g2 : DataW.trod enc Try.prog w base spare held n' 40 [c2] = some y2 := by simpa using field_at (by kernel_rfl) hf' 2 _ rfl
        obtain ⟨x0, e0, _, _⟩ := DataW.trod_int Try.underlying3 g0
        obtain ⟨x1, e1, _, _⟩ := DataW.trod_int Try.underlying3 g1
        obtain ⟨x2, e2, _, w2⟩ := DataW.trod_int Try.underlying40 g2
        obtain ⟨n2, rfl, hn2⟩ := u64_bd w2
        simp at e0 e1 e2
        subst e0 e1 e2
        have t0 := hat 0 (by omega)
        have t1 := hat 1 (by omega)
        have t2 := hat 2 (by omega)
        rw [add_add] at t0 t1 t2
        exact ⟨(x0, x1, n2), hn2, t0, t1, t2⟩
    obtain ⟨xs, hxl, hxs⟩ := pick_list (0, 0, 0) key
    refine ⟨some a, cap, xs, by rw [hxl], ?_, by rw [hxl]; unfold maxLen at hm; omega⟩
    cases hlen : len with
    | zero => left; rw [hlen] at hxl; exact List.eq_nil_of_length_eq_zero hxl
    | succ n0 =>
      right
      obtain ⟨b, off, spot⟩ := a
      have hc := (hxs 0 (by omega)).2.1
      have hspot : spot = none := by simpa [Addr.add] using World.cell?_spot hc
      subst hspot
      refine ⟨b, off, rfl, lt_of_cell (o := off) (by simpa [Addr.add] using hc), fun j hj => ?_⟩
      obtain ⟨z0, z1, z2, z3⟩ := hxs j (by omega)
      refine ⟨z0, ?_, ?_, ?_⟩
      · rw [← addb]; exact z1
      · rw [Nat.add_assoc, ← addb]; exact z2
      · rw [Nat.add_assoc, ← addb]; exact z3
end
end Go.Proofs.Ytldmlmojokicaaa

namespace Go.Proofs.Ytldmlmojokicaaa
open Go.ChangeShapes Go.WideShapes Go.RowKit Go.Deep

def opg0 : Opg := ⟨0, 0, 0, 0, 0, 0, 0, ⟨false, false, false⟩, 0⟩
/-- the operations that a slice shows -/
def Gops (w : World) (a : Option Addr) (l : List Opg) : Prop :=
  l = [] ∨ ∃ b off, a = some ⟨b, off, none⟩ ∧ b < w.heap.size ∧ ∀ j, j < l.length → (l.getD j opg0).v < 2 ^ 64 ∧ ∀ k, k < 11 → w.cell? ⟨b, off + j * 11 + k, none⟩ = (l.getD j opg0).cells[k]?
theorem Gops.below {w w' : World} {a : Option Addr} {l : List Opg} (h : Gops w a l) (hb : Below w.heap.size w w') : Gops w' a l := by
  rcases h with h | ⟨b, off, h1, h2, h3⟩
  · exact .inl h
  · exact .inr ⟨b, off, h1, Nat.lt_of_lt_of_le h2 hb.size, fun j hj => ⟨(h3 j hj).1, fun k hk => (hb.cell (p := ⟨b, _, none⟩) h2).trans ((h3 j hj).2 k hk)⟩⟩
section
variable {H : Type} {enc : TypeId × Value → H} {w : World} {base base' : Nat} {spare : Nat → Bool} {held : Bool}
set_option maxRecDepth 100000 in
set_option maxHeartbeats 1000000 in
theorem open_gops {v : Value} {d : DataW H} {p : List MemPlace} (hv : Value.okWide Try.prog w .any base' 23 v) (h : DataW.Trod enc Try.prog w base spare held 23 v d p) :
    ∃ (a : Option Addr) (c : Nat) (l : List Opg), v = .slice a l.length c ∧ Gops w a l ∧ l.length ≤ 9223372036854775807 := by
  obtain ⟨a0, len, cap, rfl⟩ := okWide_slice Try.underlying23 hv
  obtain ⟨fuel, hf⟩ := h
  rcases open_slice Try.underlying23 hf with ⟨hcs, _⟩ | ⟨a, l, c, m, n, D, Pl, hcs, hb, hl, hm, hmm, hx, hi⟩
  · simp [Value.cells] at hcs
    obtain ⟨rfl, rfl, rfl⟩ := hcs
    exact ⟨none, 0, [], rfl, .inl rfl, Nat.zero_le _⟩
  · simp [Value.cells] at hcs
    obtain ⟨rfl, rfl, rfl⟩ := hcs
    have hc3 : Try.prog.cellsOf 42 = 11 := by kernel_rfl
    have hck : Try.prog.cellsOf 37 = 3 := by kernel_rfl
    have hcr : Try.prog.cellsOf 39 = 3 := by kernel_rfl
    have hci : Try.prog.cellsOf 3 = 1 := by kernel_rfl
    have hcu : Try.prog.cellsOf 40 = 1 := by kernel_rfl
    have hcb : Try.prog.cellsOf 4 = 1 := by kernel_rfl
    have key : ∀ i, i < len → ∃ x : Opg, x.v < 2 ^ 64 ∧ ∀ k, k < 11 → w.cell? (a.add (i * 11 + k)) = x.cells[k]? := by
      intro i hil
      obtain ⟨cs', hc, ht'⟩ := hi i (by rw [hmm]; split <;> omega)
      rw [hc3] at hc
      obtain ⟨ys, n', hn', hy, hlen, hyl, hf'⟩ := DataW.trod_struct Try.underlying42 ht'
      rw [hc3] at hlen
      obtain ⟨_, hcl, hat⟩ := World.cells?_some hc
      match cs', hlen, ys, hyl with
      | [c0, c1, c2, c3, c4, c5, c6, c7, c8, c9, c10], _, [y0, y1, y2, y3, y4, y5, y6], _ =>
        have g0 : DataW.trod enc Try.prog w base spare held n' 3 [c0] = some y0 := by { have h : DataW.trod enc Try.prog w base spare held n' 3 (([c0, c1, c2, c3, c4, c5, c6, c7, c8, c9, c10].drop 0).take (Try.prog.cellsOf 3)) = [y0, y1, y2, y3, y4, y5, y6][0]? := hf' 0 _ rfl; rw [hci] at h; exact h }
        have g1 : DataW.trod enc Try.prog w base spare held n' 37 [c1, c2, c3] = some y1 := by { have h : DataW.trod enc Try.prog w base spare held n' 37 (([c0, c1, c2, c3, c4, c5, c6, c7, c8, c9, c10].drop 1).take (Try.prog.cellsOf 37)) = [y0, y1, y2, y3, y4, y5, y6][1]? := hf' 1 _ rfl; rw [hck] at h; exact h }
        have g2 : DataW.trod enc Try.prog w base spare held n' 3 [c4] = some y2 := by { have h : DataW.trod enc Try.prog w base spare held n' 3 (([c0, c1, c2, c3, c4, c5, c6, c7, c8, c9, c10].drop 4).take (Try.prog.cellsOf 3)) = [y0, y1, y2, y3, y4, y5, y6][2]? := hf' 2 _ rfl; rw [hci] at h; exact h }
        have g3 : DataW.trod enc Try.prog w base spare held n' 3 [c5] = some y3 := by { have h : DataW.trod enc Try.prog w base spare held n' 3 (([c0, c1, c2, c3, c4, c5, c6, c7, c8, c9, c10].drop 5).take (Try.prog.cellsOf 3)) = [y0, y1, y2, y3, y4, y5, y6][3]? := hf' 3 _ rfl; rw [hci] at h; exact h }
        have g4 : DataW.trod enc Try.prog w base spare held n' 3 [c6] = some y4 := by { have h : DataW.trod enc Try.prog w base spare held n' 3 (([c0, c1, c2, c3, c4, c5, c6, c7, c8, c9, c10].drop 6).take (Try.prog.cellsOf 3)) = [y0, y1, y2, y3, y4, y5, y6][4]? := hf' 4 _ rfl; rw [hci] at h; exact h }
        have g5 : DataW.trod enc Try.prog w base spare held n' 39 [c7, c8, c9] = some y5 := by { have h : DataW.trod enc Try.prog w base spare held n' 39 (([c0, c1, c2, c3, c4, c5, c6, c7, c8, c9, c10].drop 7).take (Try.prog.cellsOf 39)) = [y0, y1, y2, y3, y4, y5, y6][5]? := hf' 5 _ rfl; rw [hcr] at h; exact h }
        have g6 : DataW.trod enc Try.prog w base spare held n' 40 [c10] = some y6 := by { have h : DataW.trod enc Try.prog w base spare held n' 40 (([c0, c1, c2, c3, c4, c5, c6, c7, c8, c9, c10].drop 10).take (Try.prog.cellsOf 40)) = [y0, y1, y2, y3, y4, y5, y6][6]? := hf' 6 _ rfl; rw [hcu] at h; exact h }
        obtain ⟨zs, n1, _, _, _, hzl, hf1⟩ := DataW.trod_struct Try.underlying37 g1
        obtain ⟨rs, n2, _, _, _, hrl, hf2⟩ := DataW.trod_struct Try.underlying39 g5
        match zs, hzl, rs, hrl with
        | [z0, z1, z2], _, [r0, r1, r2], _ =>
          have k0 : DataW.trod enc Try.prog w base spare held n1 3 [c1] = some z0 := by simpa using field_at (by kernel_rfl) hf1 0 _ rfl
          have k1 : DataW.trod enc Try.prog w base spare held n1 3 [c2] = some z1 := by simpa using field_at (by kernel_rfl) hf1 1 _ rfl
          have k2 : DataW.trod enc Try.prog w base spare held n1 3 [c3] = some z2 := by simpa using field_at (by kernel_rfl) hf1 2 _ rfl
          have s0 : DataW.trod enc Try.prog w base spare held n2 4 [c7] = some r0 := by simpa using field_at (by kernel_rfl) hf2 0 _ rfl
          have s1 : DataW.trod enc Try.prog w base spare held n2 4 [c8] = some r1 := by simpa using field_at (by kernel_rfl) hf2 1 _ rfl
          have s2 : DataW.trod enc Try.prog w base spare held n2 4 [c9] = some r2 := by simpa using field_at (by kernel_rfl) hf2 2 _ rfl
          obtain ⟨x0, e0, _, _⟩ := DataW.trod_int Try.underlying3 g0
          obtain ⟨x1, e1, _, _⟩ := DataW.trod_int Try.underlying3 k0
          obtain ⟨x2, e2, _, _⟩ := DataW.trod_int Try.underlying3 k1
          obtain ⟨x3, e3, _, _⟩ := DataW.trod_int Try.underlying3 k2
          obtain ⟨x4, e4, _, _⟩ := DataW.trod_int Try.underlying3 g2
          obtain ⟨x5, e5, _, _⟩ := DataW.trod_int Try.underlying3 g3
          obtain ⟨x6, e6, _, _⟩ := DataW.trod_int Try.underlying3 g4
          obtain ⟨x7, e7, _⟩ := DataW.trod_bool Try.underlying4 s0
          obtain ⟨x8, e8, _⟩ := DataW.trod_bool Try.underlying4 s1
          obtain ⟨x9, e9, _⟩ := DataW.trod_bool Try.underlying4 s2
          obtain ⟨x10, e10, _, w10⟩ := DataW.trod_int Try.underlying40 g6
          obtain ⟨m10, rfl, hm10⟩ := u64_bd w10
          simp at e0 e1 e2 e3 e4 e5 e6 e7 e8 e9 e10
          subst e0 e1 e2 e3 e4 e5 e6 e7 e8 e9 e10
          refine ⟨⟨x0, x1, x2, x3, x4, x5, x6, ⟨x7, x8, x9⟩, m10⟩, hm10, fun k hk => ?_⟩
          have t := hat k hk
          rw [add_add] at t
          rw [t]
          rfl
    obtain ⟨xs, hxl, hxs⟩ := pick_list opg0 key
    refine ⟨some a, cap, xs, by rw [hxl], ?_, by rw [hxl]; unfold maxLen at hm; omega⟩
    cases hlen : len with
    | zero => left; rw [hlen] at hxl; exact List.eq_nil_of_length_eq_zero hxl
    | succ n0 =>
      right
      obtain ⟨b, off, spot⟩ := a
      have hc := (hxs 0 (by omega)).2 0 (by omega)
      have hc' : w.cell? ((⟨b, off, spot⟩ : Addr).add (0 * 11 + 0)) = some (.int .i64 (xs.getD 0 opg0).k) := hc
      have hspot : spot = none := by simpa [Addr.add] using World.cell?_spot hc'
      subst hspot
      refine ⟨b, off, rfl, lt_of_cell (o := off) (by simpa [Addr.add] using hc'), fun j hj => ⟨(hxs j (by omega)).1, fun k hk => ?_⟩⟩
      rw [Nat.add_assoc, ← addb]
      exact (hxs j (by omega)).2 k hk
end
end Go.Proofs.Ytldmlmojokicaaa
