/- What each row's proof of this seat shares: the one listed variable, a slice of Puts opened. -/
import Derived.Test.YtglohconhbcchaaGreatDoorRows
import Derived.Test.YtglohconhbcchaaGreatDoorMade
import Derived.WalkKit
import Derived.ProofKit
import Derived.OpenShut
import Derived.ChangeSame
import Derived.ChangeVars
import Derived.JoinedOf
import Derived.RowKit
import Derived.RowKitTokens
import Derived.LaidLaws
import Derived.LaidHandle
import Derived.Stop.Joined
import Derived.Deep.Slices
import Derived.Deep.Fields
import Derived.Below
import Derived.Carry
namespace Go.Proofs.YtglohconhbcchaaGreatDoor
open Go.ChangeShapes Go.WideShapes Go.RowKit Go.Deep

theorem rowOwn : ownKnob Tryz.prog.godebug = none := by kernel_rfl
theorem rowLaidOut : laidOutB Tryz.prog = true := by kernel_rfl
theorem rowEt : Tryz.prog.globalNamed "errors.errorType" = some 0 := by kernel_rfl
theorem rowRt : (Tryz.prog.cutTypes.find? (·.1 == "internal/reflectlite.rtype")).map (·.2) = some 266 := by kernel_rfl
theorem rowOne : ((List.range Tryz.prog.types.size).filter fun t => Tryz.prog.rowNamed t [101, 114, 114, 111, 114]) = [147] := by kernel_rfl

/-- the listed variable's cell -/
theorem ec_of_laid {W : World} (h : laidMetH Tryz.prog [("errors.errorType", Rows.laid_errors_errorType)] W) : W.cell? ⟨0, 0, none⟩ = some (.iface 266 (.agg #[.pointer (some ⟨1, 147, none⟩)])) := by
  have h' : laidMet Tryz.prog [] W ∧ handlesMet Tryz.prog [("errors.errorType", Rows.laid_errors_errorType)] W := h
  obtain ⟨name, u, ty, e1, e2, e3, e4, e5⟩ := h'.2 _ (List.mem_singleton.2 rfl)
  have en : name = [101, 114, 114, 111, 114] := (Option.some.inj e1).symm
  subst en
  obtain rfl := Option.some.inj (rowRt.symm.trans e2)
  have hm : ty ∈ (List.range Tryz.prog.types.size).filter fun t => Tryz.prog.rowNamed t [101, 114, 114, 111, 114] := List.mem_filter.2 ⟨List.mem_range.2 e3, e4⟩
  rw [rowOne] at hm
  obtain rfl := List.mem_singleton.1 hm
  have hh : typeHandle Tryz.prog 147 = .pointer (some ⟨1, 147, none⟩) := by kernel_rfl
  rw [hh] at e5
  simpa using World.var?_cell rowEt e5 0

/-- a world in which the variable is laid so -/
noncomputable def rowWorld (os : Os) : World :=
  let w0 := World.holding Tryz.prog os ⟨#[], #[], []⟩
  { w0 with heap := w0.heap.modify 0 fun
      | .cells _ t frozen => .cells #[.iface 266 (.agg #[.pointer (some ⟨1, 147, none⟩)])] t frozen
      | o => o }
set_option maxRecDepth 100000 in
theorem rowWorld_met (os : Os) (args : Array Value) : laidMetH Tryz.prog [("errors.errorType", Rows.laid_errors_errorType)] ((rowWorld os).forCall (fun _ _ => 0) ⟨#[], args, []⟩).memory :=
  laidMetH_of_parts (laidMet_nil _ _) (by kernel_rfl)

theorem pick_list {α : Type} {n : Nat} {p : Nat → α → Prop} (d : α) (h : ∀ i, i < n → ∃ x, p i x) : ∃ l : List α, l.length = n ∧ ∀ i, i < n → p i (l.getD i d) := by
  induction n with
  | zero => exact ⟨[], rfl, fun i hi => by omega⟩
  | succ n ih =>
    obtain ⟨l, hl, hp⟩ := ih (fun i hi => h i (by omega))
    obtain ⟨x, hx⟩ := h n (by omega)
    refine ⟨l ++ [x], by simp [hl], fun i hi => ?_⟩
    by_cases hin : i < n
    · have := hp i hin
      rw [List.getD, List.getElem?_append_left (by omega)]
      exact this
    · obtain rfl : i = n := by omega
      rw [List.getD, List.getElem?_append_right (by omega)]
      simpa [hl] using hx
theorem u64_bd {v : Int} (h : (Lit.int .u64 v).wf = true) : ∃ n : Nat, v = (n : Int) ∧ n < 2 ^ 64 := by
  simp [Lit.wf, IntKind.min, IntKind.max, IntKind.signed, IntKind.bits] at h
  exact ⟨v.toNat, by omega, by omega⟩
theorem addb (b off j : Nat) : (⟨b, off, none⟩ : Addr).add j = ⟨b, off + j, none⟩ := by
  unfold Addr.add; split <;> simp_all
theorem add_add (a : Addr) (i j : Nat) : (a.add i).add j = a.add (i + j) := by
  unfold Addr.add; split <;> split <;> simp_all <;> omega
section
variable {H : Type} {enc : TypeId × Value → H} {w : World} {base base' : Nat} {spare : Nat → Bool} {held : Bool}
theorem field_at {P : Program} {fs : Array Field} {cs : List Value} {n : Nat} {ys : List (DataW H × List MemPlace)} (hone : oneCellFields P fs = true)
    (hf : ∀ (i : Nat) (f : Field), fs[i]? = some f → DataW.trod enc P w base spare held n f.type ((cs.drop f.offset).take (P.cellsOf f.type)) = ys[i]?) (i : Nat) (f : Field) (h : fs[i]? = some f) :
    DataW.trod enc P w base spare held n f.type ((cs.drop i).take 1) = ys[i]? := by
  have g := hf i f h
  obtain ⟨o, k⟩ := hone_of hone i f h
  rw [o, k] at g
  exact g
set_option maxRecDepth 100000 in
/-- A slice of Puts that came in, as the walks take it. -/
theorem open_puts {v : Value} {d : DataW H} {p : List MemPlace} (hv : Value.okWide Tryz.prog w .any base' 22 v) (h : DataW.Trod enc Tryz.prog w base spare held 22 v d p) :
    ∃ (a : Option Addr) (c : Nat) (l : List (Int × Int × Nat)), v = .slice a l.length c ∧ Ps w a l ∧ l.length ≤ 9223372036854775807 := by
  obtain ⟨a0, len, cap, rfl⟩ := okWide_slice Tryz.underlying22 hv
  obtain ⟨fuel, hf⟩ := h
  rcases open_slice Tryz.underlying22 hf with ⟨hcs, _⟩ | ⟨a, l, c, m, n, D, Pl, hcs, hb, hl, hm, hmm, hx, hi⟩
  · simp [Value.cells] at hcs
    obtain ⟨rfl, rfl, rfl⟩ := hcs
    exact ⟨none, 0, [], rfl, .inl rfl, Nat.zero_le _⟩
  · simp [Value.cells] at hcs
    obtain ⟨rfl, rfl, rfl⟩ := hcs
    have hc3 : Tryz.prog.cellsOf 107 = 3 := by kernel_rfl
    have key : ∀ i, i < len → ∃ x : Int × Int × Nat, x.2.2 < 2 ^ 64 ∧ w.cell? (a.add (i * 3)) = some (.int .i64 x.1) ∧ w.cell? (a.add (i * 3 + 1)) = some (.int .i64 x.2.1) ∧ w.cell? (a.add (i * 3 + 2)) = some (.int .u64 (x.2.2 : Int)) := by
      intro i hil
      obtain ⟨cs', hc, ht'⟩ := hi i (by rw [hmm]; split <;> omega)
      rw [hc3] at hc
      obtain ⟨ys, n', hn', hy, hlen, hyl, hf'⟩ := DataW.trod_struct Tryz.underlying107 ht'
      rw [hc3] at hlen
      obtain ⟨_, hcl, hat⟩ := World.cells?_some hc
      match cs', hlen, ys, hyl with
      | [c0, c1, c2], _, [y0, y1, y2], _ =>
        have g0 : DataW.trod enc Tryz.prog w base spare held n' 3 [c0] = some y0 := by simpa using field_at (by kernel_rfl) hf' 0 _ rfl
        have g1 : DataW.trod enc Tryz.prog w base spare held n' 3 [c1] = some y1 := by simpa using field_at (by kernel_rfl) hf' 1 _ rfl
        have g2 : DataW.trod enc Tryz.prog w base spare held n' 24 [c2] = some y2 := by simpa using field_at (by kernel_rfl) hf' 2 _ rfl
        obtain ⟨x0, e0, _, _⟩ := DataW.trod_int Tryz.underlying3 g0
        obtain ⟨x1, e1, _, _⟩ := DataW.trod_int Tryz.underlying3 g1
        obtain ⟨x2, e2, _, w2⟩ := DataW.trod_int Tryz.underlying24 g2
        obtain ⟨n2, rfl, hn2⟩ := u64_bd w2
        simp at e0 e1 e2
        subst e0 e1 e2
        have t0 := hat 0 (by omega)
        have t1 := hat 1 (by omega)
        have t2 := hat 2 (by omega)
        rw [add_add] at t0 t1 t2
        exact ⟨(x0, x1, n2), hn2, t0, t1, t2⟩
    obtain ⟨xs, hxl, hxs⟩ := pick_list (0, 0, 0) key
    refine ⟨some a, cap, xs, by rw [hxl], ?_, by rw [hxl]; unfold maxLen at hm; omega⟩
    cases hlen : len with
    | zero => left; rw [hlen] at hxl; exact List.eq_nil_of_length_eq_zero hxl
    | succ n0 =>
      right
      obtain ⟨b, off, spot⟩ := a
      have hc := (hxs 0 (by omega)).2.1
      have hspot : spot = none := by simpa [Addr.add] using World.cell?_spot hc
      subst hspot
      refine ⟨b, off, rfl, lt_of_cell (o := off) (by simpa [Addr.add] using hc), fun j hj => ?_⟩
      obtain ⟨z0, z1, z2, z3⟩ := hxs j (by omega)
      refine ⟨z0, ?_, ?_, ?_⟩
      · rw [← addb]; exact z1
      · rw [Nat.add_assoc, ← addb]; exact z2
      · rw [Nat.add_assoc, ← addb]; exact z3
end
end Go.Proofs.YtglohconhbcchaaGreatDoor
