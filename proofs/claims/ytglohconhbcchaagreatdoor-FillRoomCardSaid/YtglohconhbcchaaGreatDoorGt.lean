/- The store's iterator over all slots; told, Parents, Leaves. -/
import Derived.Test.YtglohconhbcchaaGreatDoorGs
import Derived.Test.YtglohconhbcchaaGreatDoorFind
import Derived.Test.YtglohconhbcchaaGreatDoorPath
import Derived.WalkMore
namespace Go.Proofs.YtglohconhbcchaaGreatDoor
open Go.RowKit Go.Shelf
attribute [local go_sem] Oper.semAt_some

theorem eight {α : Type} {l : List α} (h : l.length = 8) : ∃ a b c d e f g i, l = [a, b, c, d, e, f, g, i] := by
  match l, h with
  | [a, b, c, d, e, f, g, i], _ => exact ⟨a, b, c, d, e, f, g, i, rfl⟩
theorem slot_at0 (w : World) (s0 s1 s2 s3 s4 s5 s6 s7 : Slt) : (Instr.index 126 (.agg #[.int .i64 s0.kind, .int .i64 s0.dst, .bool s0.r.w, .bool s0.r.u, .bool s0.r.x, .int .i64 s1.kind, .int .i64 s1.dst, .bool s1.r.w, .bool s1.r.u, .bool s1.r.x, .int .i64 s2.kind, .int .i64 s2.dst, .bool s2.r.w, .bool s2.r.u, .bool s2.r.x, .int .i64 s3.kind, .int .i64 s3.dst, .bool s3.r.w, .bool s3.r.u, .bool s3.r.x, .int .i64 s4.kind, .int .i64 s4.dst, .bool s4.r.w, .bool s4.r.u, .bool s4.r.x, .int .i64 s5.kind, .int .i64 s5.dst, .bool s5.r.w, .bool s5.r.u, .bool s5.r.x, .int .i64 s6.kind, .int .i64 s6.dst, .bool s6.r.w, .bool s6.r.u, .bool s6.r.x, .int .i64 s7.kind, .int .i64 s7.dst, .bool s7.r.w, .bool s7.r.u, .bool s7.r.x]) (.int .i64 0)).run Tryz.prog w = .ok (.agg #[.int .i64 s0.kind, .int .i64 s0.dst, .bool s0.r.w, .bool s0.r.u, .bool s0.r.x]) w := by kernel_rfl
theorem slot_at1 (w : World) (s0 s1 s2 s3 s4 s5 s6 s7 : Slt) : (Instr.index 126 (.agg #[.int .i64 s0.kind, .int .i64 s0.dst, .bool s0.r.w, .bool s0.r.u, .bool s0.r.x, .int .i64 s1.kind, .int .i64 s1.dst, .bool s1.r.w, .bool s1.r.u, .bool s1.r.x, .int .i64 s2.kind, .int .i64 s2.dst, .bool s2.r.w, .bool s2.r.u, .bool s2.r.x, .int .i64 s3.kind, .int .i64 s3.dst, .bool s3.r.w, .bool s3.r.u, .bool s3.r.x, .int .i64 s4.kind, .int .i64 s4.dst, .bool s4.r.w, .bool s4.r.u, .bool s4.r.x, .int .i64 s5.kind, .int .i64 s5.dst, .bool s5.r.w, .bool s5.r.u, .bool s5.r.x, .int .i64 s6.kind, .int .i64 s6.dst, .bool s6.r.w, .bool s6.r.u, .bool s6.r.x, .int .i64 s7.kind, .int .i64 s7.dst, .bool s7.r.w, .bool s7.r.u, .bool s7.r.x]) (.int .i64 1)).run Tryz.prog w = .ok (.agg #[.int .i64 s1.kind, .int .i64 s1.dst, .bool s1.r.w, .bool s1.r.u, .bool s1.r.x]) w := by kernel_rfl
theorem slot_at2 (w : World) (s0 s1 s2 s3 s4 s5 s6 s7 : Slt) : (Instr.index 126 (.agg #[.int .i64 s0.kind, .int .i64 s0.dst, .bool s0.r.w, .bool s0.r.u, .bool s0.r.x, .int .i64 s1.kind, .int .i64 s1.dst, .bool s1.r.w, .bool s1.r.u, .bool s1.r.x, .int .i64 s2.kind, .int .i64 s2.dst, .bool s2.r.w, .bool s2.r.u, .bool s2.r.x, .int .i64 s3.kind, .int .i64 s3.dst, .bool s3.r.w, .bool s3.r.u, .bool s3.r.x, .int .i64 s4.kind, .int .i64 s4.dst, .bool s4.r.w, .bool s4.r.u, .bool s4.r.x, .int .i64 s5.kind, .int .i64 s5.dst, .bool s5.r.w, .bool s5.r.u, .bool s5.r.x, .int .i64 s6.kind, .int .i64 s6.dst, .bool s6.r.w, .bool s6.r.u, .bool s6.r.x, .int .i64 s7.kind, .int .i64 s7.dst, .bool s7.r.w, .bool s7.r.u, .bool s7.r.x]) (.int .i64 2)).run Tryz.prog w = .ok (.agg #[.int .i64 s2.kind, .int .i64 s2.dst, .bool s2.r.w, .bool s2.r.u, .bool s2.r.x]) w := by kernel_rfl
theorem slot_at3 (w : World) (s0 s1 s2 s3 s4 s5 s6 s7 : Slt) : (Instr.index 126 (.agg #[.int .i64 s0.kind, .int .i64 s0.dst, .bool s0.r.w, .bool s0.r.u, .bool s0.r.x, .int .i64 s1.kind, .int .i64 s1.dst, .bool s1.r.w, .bool s1.r.u, .bool s1.r.x, .int .i64 s2.kind, .int .i64 s2.dst, .bool s2.r.w, .bool s2.r.u, .bool s2.r.x, .int .i64 s3.kind, .int .i64 s3.dst, .bool s3.r.w, .bool s3.r.u, .bool s3.r.x, .int .i64 s4.kind, .int .i64 s4.dst, .bool s4.r.w, .bool s4.r.u, .bool s4.r.x, .int .i64 s5.kind, .int .i64 s5.dst, .bool s5.r.w, .bool s5.r.u, .bool s5.r.x, .int .i64 s6.kind, .int .i64 s6.dst, .bool s6.r.w, .bool s6.r.u, .bool s6.r.x, .int .i64 s7.kind, .int .i64 s7.dst, .bool s7.r.w, .bool s7.r.u, .bool s7.r.x]) (.int .i64 3)).run Tryz.prog w = .ok (.agg #[.int .i64 s3.kind, .int .i64 s3.dst, .bool s3.r.w, .bool s3.r.u, .bool s3.r.x]) w := by kernel_rfl
theorem slot_at4 (w : World) (s0 s1 s2 s3 s4 s5 s6 s7 : Slt) : (Instr.index 126 (.agg #[.int .i64 s0.kind, .int .i64 s0.dst, .bool s0.r.w, .bool s0.r.u, .bool s0.r.x, .int .i64 s1.kind, .int .i64 s1.dst, .bool s1.r.w, .bool s1.r.u, .bool s1.r.x, .int .i64 s2.kind, .int .i64 s2.dst, .bool s2.r.w, .bool s2.r.u, .bool s2.r.x, .int .i64 s3.kind, .int .i64 s3.dst, .bool s3.r.w, .bool s3.r.u, .bool s3.r.x, .int .i64 s4.kind, .int .i64 s4.dst, .bool s4.r.w, .bool s4.r.u, .bool s4.r.x, .int .i64 s5.kind, .int .i64 s5.dst, .bool s5.r.w, .bool s5.r.u, .bool s5.r.x, .int .i64 s6.kind, .int .i64 s6.dst, .bool s6.r.w, .bool s6.r.u, .bool s6.r.x, .int .i64 s7.kind, .int .i64 s7.dst, .bool s7.r.w, .bool s7.r.u, .bool s7.r.x]) (.int .i64 4)).run Tryz.prog w = .ok (.agg #[.int .i64 s4.kind, .int .i64 s4.dst, .bool s4.r.w, .bool s4.r.u, .bool s4.r.x]) w := by kernel_rfl
theorem slot_at5 (w : World) (s0 s1 s2 s3 s4 s5 s6 s7 : Slt) : (Instr.index 126 (.agg #[.int .i64 s0.kind, .int .i64 s0.dst, .bool s0.r.w, .bool s0.r.u, .bool s0.r.x, .int .i64 s1.kind, .int .i64 s1.dst, .bool s1.r.w, .bool s1.r.u, .bool s1.r.x, .int .i64 s2.kind, .int .i64 s2.dst, .bool s2.r.w, .bool s2.r.u, .bool s2.r.x, .int .i64 s3.kind, .int .i64 s3.dst, .bool s3.r.w, .bool s3.r.u, .bool s3.r.x, .int .i64 s4.kind, .int .i64 s4.dst, .bool s4.r.w, .bool s4.r.u, .bool s4.r.x, .int .i64 s5.kind, .int .i64 s5.dst, .bool s5.r.w, .bool s5.r.u, .bool s5.r.x, .int .i64 s6.kind, .int .i64 s6.dst, .bool s6.r.w, .bool s6.r.u, .bool s6.r.x, .int .i64 s7.kind, .int .i64 s7.dst, .bool s7.r.w, .bool s7.r.u, .bool s7.r.x]) (.int .i64 5)).run Tryz.prog w = .ok (.agg #[.int .i64 s5.kind, .int .i64 s5.dst, .bool s5.r.w, .bool s5.r.u, .bool s5.r.x]) w := by kernel_rfl
theorem slot_at6 (w : World) (s0 s1 s2 s3 s4 s5 s6 s7 : Slt) : (Instr.index 126 (.agg #[.int .i64 s0.kind, .int .i64 s0.dst, .bool s0.r.w, .bool s0.r.u, .bool s0.r.x, .int .i64 s1.kind, .int .i64 s1.dst, .bool s1.r.w, .bool s1.r.u, .bool s1.r.x, .int .i64 s2.kind, .int .i64 s2.dst, .bool s2.r.w, .bool s2.r.u, .bool s2.r.x, .int .i64 s3.kind, .int .i64 s3.dst, .bool s3.r.w, .bool s3.r.u, .bool s3.r.x, .int .i64 s4.kind, .int .i64 s4.dst, .bool s4.r.w, .bool s4.r.u, .bool s4.r.x, .int .i64 s5.kind, .int .i64 s5.dst, .bool s5.r.w, .bool s5.r.u, .bool s5.r.x, .int .i64 s6.kind, .int .i64 s6.dst, .bool s6.r.w, .bool s6.r.u, .bool s6.r.x, .int .i64 s7.kind, .int .i64 s7.dst, .bool s7.r.w, .bool s7.r.u, .bool s7.r.x]) (.int .i64 6)).run Tryz.prog w = .ok (.agg #[.int .i64 s6.kind, .int .i64 s6.dst, .bool s6.r.w, .bool s6.r.u, .bool s6.r.x]) w := by kernel_rfl
theorem slot_at7 (w : World) (s0 s1 s2 s3 s4 s5 s6 s7 : Slt) : (Instr.index 126 (.agg #[.int .i64 s0.kind, .int .i64 s0.dst, .bool s0.r.w, .bool s0.r.u, .bool s0.r.x, .int .i64 s1.kind, .int .i64 s1.dst, .bool s1.r.w, .bool s1.r.u, .bool s1.r.x, .int .i64 s2.kind, .int .i64 s2.dst, .bool s2.r.w, .bool s2.r.u, .bool s2.r.x, .int .i64 s3.kind, .int .i64 s3.dst, .bool s3.r.w, .bool s3.r.u, .bool s3.r.x, .int .i64 s4.kind, .int .i64 s4.dst, .bool s4.r.w, .bool s4.r.u, .bool s4.r.x, .int .i64 s5.kind, .int .i64 s5.dst, .bool s5.r.w, .bool s5.r.u, .bool s5.r.x, .int .i64 s6.kind, .int .i64 s6.dst, .bool s6.r.w, .bool s6.r.u, .bool s6.r.x, .int .i64 s7.kind, .int .i64 s7.dst, .bool s7.r.w, .bool s7.r.u, .bool s7.r.x]) (.int .i64 7)).run Tryz.prog w = .ok (.agg #[.int .i64 s7.kind, .int .i64 s7.dst, .bool s7.r.w, .bool s7.r.u, .bool s7.r.x]) w := by kernel_rfl
theorem slot_at (s0 s1 s2 s3 s4 s5 s6 s7 : Slt) (k : Nat) (hk : k < 8) (w : World) : (Instr.index 126 (.agg #[.int .i64 s0.kind, .int .i64 s0.dst, .bool s0.r.w, .bool s0.r.u, .bool s0.r.x, .int .i64 s1.kind, .int .i64 s1.dst, .bool s1.r.w, .bool s1.r.u, .bool s1.r.x, .int .i64 s2.kind, .int .i64 s2.dst, .bool s2.r.w, .bool s2.r.u, .bool s2.r.x, .int .i64 s3.kind, .int .i64 s3.dst, .bool s3.r.w, .bool s3.r.u, .bool s3.r.x, .int .i64 s4.kind, .int .i64 s4.dst, .bool s4.r.w, .bool s4.r.u, .bool s4.r.x, .int .i64 s5.kind, .int .i64 s5.dst, .bool s5.r.w, .bool s5.r.u, .bool s5.r.x, .int .i64 s6.kind, .int .i64 s6.dst, .bool s6.r.w, .bool s6.r.u, .bool s6.r.x, .int .i64 s7.kind, .int .i64 s7.dst, .bool s7.r.w, .bool s7.r.u, .bool s7.r.x]) (.int .i64 (k : Int))).run Tryz.prog w = .ok (.agg (slC ([s0, s1, s2, s3, s4, s5, s6, s7].getD k slt0)).toArray) w := by
  match k, hk with
  | 0, _ => exact slot_at0 w s0 s1 s2 s3 s4 s5 s6 s7
  | 1, _ => exact slot_at1 w s0 s1 s2 s3 s4 s5 s6 s7
  | 2, _ => exact slot_at2 w s0 s1 s2 s3 s4 s5 s6 s7
  | 3, _ => exact slot_at3 w s0 s1 s2 s3 s4 s5 s6 s7
  | 4, _ => exact slot_at4 w s0 s1 s2 s3 s4 s5 s6 s7
  | 5, _ => exact slot_at5 w s0 s1 s2 s3 s4 s5 s6 s7
  | 6, _ => exact slot_at6 w s0 s1 s2 s3 s4 s5 s6 s7
  | 7, _ => exact slot_at7 w s0 s1 s2 s3 s4 s5 s6 s7
  | k + 8, h => omega
theorem slot_ix (l : List Slt) (h8 : l.length = 8) (k : Nat) (hk : k < 8) (w : World) : (Instr.index 126 (.agg (l.flatMap slC).toArray) (.int .i64 (k : Int))).run Tryz.prog w = .ok (.agg (slC (l.getD k slt0)).toArray) w := by
  obtain ⟨a, b, c, d, e, f, g, i, rfl⟩ := eight h8
  exact slot_at a b c d e f g i k hk w
theorem slot_load (w : World) (b : Nat) (p : Pg) (hb : Blk w b 128 (pgC p)) (h8 : p.s.length = 8) : (Instr.loadAt 126 (.pointer (some ⟨b, 4, none⟩))).run Tryz.prog w = .ok (.agg (p.s.flatMap slC).toArray) w := by
  have hl : (p.s.flatMap slC).length = 40 := by rw [slC_len, h8]
  have hc : ∀ j v, (p.s.flatMap slC)[j]? = some v → w.cell? ((⟨b, 4, none⟩ : Addr).add j) = some v := fun j v hj => by
    rw [addh]
    refine hb.cell ?_
    unfold pgC
    rw [List.getElem?_append_right (by simp), ← hj]
    congr 1
    simp
  have h := run_loadCells_list (P := Tryz.prog) w (⟨b, 4, none⟩ : Addr) _ hc
  rw [hl] at h
  have hs : ∀ w, (isAgg 126).run Tryz.prog w = .ok true w := fun w => by kernel_rfl
  have hz : ∀ w, (sizeOf 126).run Tryz.prog w = .ok 40 w := fun w => by kernel_rfl
  obtain ⟨X, hX⟩ : ∃ X, (p.s.flatMap slC).toArray = X := ⟨_, rfl⟩
  rw [hX] at h ⊢
  simp [Instr.loadAt, Instr.sureAddr, loadVar, hs, hz, h]

section
variable {F : Fence} {nF : Nat}
/-- a load whose run is known -/
theorem wpListIn_load_run {P : Program} {w : World} {ops : Array Oper} {rest : List Oper} {o : Oper} {a : Act} {Q : Exit → Act → World → Prop} (t : TypeId) (hg : o.guard = none) (p : Operand) (hop : o.op = Op.load t p) (pv v : Value) (hm : a.eval p = pv)
    (hrun : (Instr.loadAt t pv).run P w = .ok v w) (hK : wpListIn F nF P ops Q rest (a.put o.dst v) w) : wpListIn F nF P ops Q (o :: rest) a w := by
  refine wpListIn_plain hg fun K' hK' => ?_
  unfold Oper.wpIn
  refine ⟨by simp [Oper.about, hop], ?_⟩
  rw [Oper.semAt_plain F _ _ (by rw [hop]; intro c hc'; cases hc')]
  simp [execOp, hop, hm, hrun, Result.andThen]
  exact hK' _ _ hK
end
/-- what a page tells of its slots -/
def pall (p : Pg) : List (Int × Nat × Slt) := (List.range 8).map fun i => (p.f, i, p.s.getD i slt0)
def allL (ps : List Pg) : List (Int × Nat × Slt) := ps.flatMap pall
def encAS (x : Int × Nat × Slt) : Array Value := #[.agg #[.int .i64 x.1, .int .i64 (x.2.1 : Int)], .agg #[.int .i64 x.2.2.kind, .int .i64 x.2.2.dst, .bool x.2.2.r.w, .bool x.2.2.r.u, .bool x.2.2.r.x]]
theorem pall_len (p : Pg) : (pall p).length = 8 := by simp [pall]
theorem allL_len (ps : List Pg) : (allL ps).length = 8 * ps.length := by
  induction ps with
  | nil => rfl
  | cons p r ih => rw [allL, List.flatMap_cons, List.length_append, pall_len]; change 8 + (allL r).length = _; rw [ih]; simp; omega
theorem allL_take (ps : List Pg) (m : Nat) (hm : m < ps.length) : allL (ps.take (m + 1)) = allL (ps.take m) ++ pall (ps.getD m pg0) := by
  unfold allL
  rw [List.take_add_one, List.getElem?_eq_getElem hm, List.flatMap_append, getD_at _ hm]; simp
theorem allL_front (ps : List Pg) (m : Nat) : ∃ q, allL (ps.take m) ++ q = allL ps := by
  refine ⟨allL (ps.drop m), ?_⟩
  unfold allL
  rw [← List.flatMap_append, List.take_append_drop]
theorem pall_take (p : Pg) (j : Nat) (hj : j < 8) : (pall p).take (j + 1) = (pall p).take j ++ [(p.f, j, p.s.getD j slt0)] := by
  have h8 := pall_len p
  rw [List.take_add_one, List.getElem?_eq_getElem (by omega)]
  simp [pall]
/-- the pages, as the iterator reads them -/
structure PX (w : World) (sp : Nat) (x0 x1 pv : Value) (pbs : List Nat) (ps : List Pg) : Prop where
  hdr : Blk w sp 124 [x0, x1, pv]
  row : (pv = .slice none 0 0 ∧ pbs = []) ∨ ∃ g cap rest, pv = .slice (some ⟨g, 0, none⟩) pbs.length cap ∧ Blk w g 125 (pbs.map valP ++ rest) ∧ pbs.length ≤ cap ∧ cap ≤ maxLen
  plen : pbs.length = ps.length
  pg : ∀ (k b : Nat), pbs[k]? = some b → ∃ p, ps[k]? = some p ∧ Blk w b 128 (pgC p) ∧ p.s.length = 8
theorem px_of {w : World} {P : Pm} {A : GAd} {V : GVl} {S : SS} (h : SX w P A V S) : PX w A.sp (.pointer (some ⟨A.fp, 0, none⟩)) (.pointer (some ⟨A.flp, 0, none⟩)) V.pv V.pbs S.ps := by
  refine ⟨h.hdr, ?_, h.plen, fun k b hb => ?_⟩
  · rcases h.row.view with h | ⟨g, cap, rest, h1, h2, h3, h4, _⟩
    · exact .inl h
    · exact .inr ⟨g, cap, rest, h1, h2, h3, h4⟩
  · obtain ⟨p, h1, h2⟩ := h.pg k b hb
    exact ⟨p, h1, h2, h.inv.sl p (List.mem_of_getElem? h1)⟩
theorem PX.past {w w' : World} {sp : Nat} {x0 x1 pv : Value} {pbs : List Nat} {ps : List Pg} (h : PX w sp x0 x1 pv pbs ps) (hb : Below w.heap.size w w') : PX w' sp x0 x1 pv pbs ps :=
  ⟨h.hdr.past hb, by
    rcases h.row with h | ⟨g, cap, rest, h1, h2, h3⟩
    · exact .inl h
    · exact .inr ⟨g, cap, rest, h1, h2.past hb, h3⟩, h.plen, fun k b hk => by obtain ⟨p, h1, h2, h3⟩ := h.pg k b hk; exact ⟨p, h1, h2.past hb, h3⟩⟩
theorem PX.keepT {w w' : World} {sp : Nat} {x0 x1 pv : Value} {pbs : List Nat} {ps : List Pg} (h : PX w sp x0 x1 pv pbs ps) {T0 : TypeId} {S : Nat → Prop} (hk : KeepT T0 S w w') (hT : 124 ≠ T0 ∧ 125 ≠ T0 ∧ 128 ≠ T0)
    (hS : ∀ k, S k → ∀ T xs, Blk w k T xs → T ≠ 124 ∧ T ≠ 125 ∧ T ≠ 128) : PX w' sp x0 x1 pv pbs ps :=
  ⟨h.hdr.keepT hk hT.1 (fun s => (hS _ s _ _ h.hdr).1 rfl), by
    rcases h.row with h | ⟨g, cap, rest, h1, h2, h3⟩
    · exact .inl h
    · exact .inr ⟨g, cap, rest, h1, h2.keepT hk hT.2.1 (fun s => (hS _ s _ _ h2).2.1 rfl), h3⟩, h.plen, fun k b hb => by
      obtain ⟨p, h1, h2, h3⟩ := h.pg k b hb
      exact ⟨p, h1, h2.keepT hk hT.2.2 (fun s => (hS _ s _ _ h2).2.2 rfl), h3⟩⟩

set_option maxRecDepth 100000 in
set_option maxHeartbeats 4000000 in
theorem all_stops (n : Nat) (hn : 3 ≤ n) (S : Nat → Prop) (T0 : TypeId) (hT : 124 ≠ T0 ∧ 125 ≠ T0 ∧ 128 ≠ T0) (w : World) (sb sp : Nat) (x0 x1 pv : Value) (pbs : List Nat) (ps : List Pg)
    (X : PX w sp x0 x1 pv pbs ps) (E : Blk w sb 39 [.pointer (some ⟨sp, 0, none⟩)]) (hsm : ps.length ≤ 1000)
    (hS : ∀ W, Below w.heap.size w W → ∀ k, S k → ∀ T xs, Blk W k T xs → T ≠ 124 ∧ T ≠ 125 ∧ T ≠ 128) (hSn : ∀ k, w.heap.size ≤ k → ¬ S k) :
    SeqStopsK Fence.wide n Tryz.prog 217 #[.pointer (some ⟨sb, 0, none⟩)] encAS (KeepT T0 S)
      (fun xs => xs = allL ps) (fun pre => ∃ q, pre ++ q = allL ps) (8 * ps.length) w := by
  intro l J Jx W hW hJ hJx hY h0
  have hSn' : ∀ k, W.heap.size ≤ k → ¬ S k := fun k hk => hSn k (Nat.le_trans hW.size hk)
  replace X := X.past hW
  replace E := E.past hW
  replace hS := hS W hW
  clear hW hSn w
  have e1 := E.cell (k := 0) rfl
  have x2 := X.hdr.cell (k := 2) rfl
  have l1 := E.lt
  have l2 := X.hdr.lt
  have XX := Lib.hid X
  have EE := Lib.hid E
  have HS := Lib.hid hS
  refine callsIn_of_wp Tryz.func217 rfl trivial ?_ rfl
  simp only [Tryz.ntmps217, List.size_toArray, List.length_cons, List.length_nil, Nat.reduceAdd, Nat.reduceSub, Array.replicate_succ, Array.replicate_zero, List.push_toArray, List.append_toArray, List.nil_append, List.cons_append]
  rcases X.row with ⟨rfl, hnil⟩ | ⟨g, cap, rest, rfl, hrow, hc1, hc2⟩
  · have hps : ps = [] := List.length_eq_zero_iff.1 (by rw [← X.plen, hnil]; rfl)
    subst hps
    clear X E hS
    gi_wp2
    refine wpIn_wide.2 ?_
    go_step3
    refine wp_seq (wp_label ?_)
    refine (wpIn_wide (n := n)).1 ?_
    gi_wp2_with fail
    gi_loopw [4, 5, 6, 12] (fun _ _ _ i wr => i = .int .i64 0 ∧ J [] wr) (fun _ _ _ _ _ => 0)
    case atStart => exact ⟨rfl, h0⟩
    case round =>
      obtain ⟨rfl, hJp⟩ := hrel
      gi_wp2
      rw [Exit.noGoto_normal]
      refine bodyPost_end (results_none rfl _ _ _) rfl ?_
      exact ⟨⟨_, rfl⟩, .inl ⟨[], rfl, hJp⟩⟩
  · obtain ⟨len, hlen⟩ : ∃ len, pbs.length = len := ⟨_, rfl⟩
    have hpl := X.plen
    rw [hlen] at x2 hc1 hpl
    have HR := Lib.hid hrow
    have HL := Lib.hid hlen
    have HPL := Lib.hid hpl
    unfold maxLen at hc2
    clear X E hS hrow hlen hpl
    gi_wp2_with fail
    refine wpIn_wide.2 ?_
    go_step3
    refine wp_seq (wp_label ?_)
    refine (wpIn_wide (n := n)).1 ?_
    gi_wp2_with fail
    gi_loopw [4, 5, 6, 12] (fun _ _ _ i wr => ∃ m : Nat, m ≤ len ∧ i = .int .i64 m ∧ J (allL (ps.take m)) wr ∧ KeepT T0 S W wr) (fun _ _ _ i _ => len - (intOf i).toNat)
    case atStart => exact ⟨0, by omega, rfl, h0, KeepT.refl _ _ _⟩
    case round =>
      obtain ⟨m, hm, rfl, hJp, hK⟩ := hrel
      clear h0
      by_cases hml : m < len
      · have hrow := HR.out.keepT hK hT.2.1 (fun s => (HS.out _ s _ _ HR.out).2.1 rfl)
        have d0 : wr.cell? ⟨g, m, none⟩ = some (.pointer (some ⟨pbs.getD m 0, 0, none⟩)) := hrow.cell (by rw [List.getElem?_append_left (by rw [List.length_map, HL.out]; exact hml), List.getElem?_map, List.getElem?_eq_getElem (by rw [HL.out]; exact hml), List.getD, List.getElem?_eq_getElem (by rw [HL.out]; exact hml)]; rfl)
        have lg := hrow.lt
        obtain ⟨p, hp, hpb0, h8⟩ := XX.out.pg m _ (List.getElem?_eq_getElem (by rw [HL.out]; exact hml))
        have hpb := hpb0.keepT hK hT.2.2 (fun s => (HS.out _ s _ _ hpb0).2.2 rfl)
        have hpb1 := hpb0
        have hbn : ¬ S (pbs[m]'(by rw [HL.out]; exact hml)) := fun s => (HS.out _ s _ _ hpb0).2.2 rfl
        have hbd : pbs.getD m 0 = pbs[m]'(by rw [HL.out]; exact hml) := by rw [List.getD, List.getElem?_eq_getElem (by rw [HL.out]; exact hml)]; rfl
        obtain ⟨b, hbb⟩ : ∃ b, pbs.getD m 0 = b := ⟨_, rfl⟩
        rw [← hbd, hbb] at hpb hbn hpb1
        rw [hbb] at d0
        clear hbd hbb hrow hpb0
        have hta := allL_take ps m (by rw [← HPL.out]; exact hml)
        have hpd : ps.getD m pg0 = p := by rw [List.getD, hp]; rfl
        rw [hpd] at hta
        have hfr := allL_front ps (m + 1)
        rw [hta] at hfr
        have hld := slot_load wr b p hpb h8
        have hidx := slot_ix p.s h8
        obtain ⟨XA, hXA⟩ : ∃ X, (p.s.flatMap slC).toArray = X := ⟨_, rfl⟩
        rw [hXA] at hld hidx
        obtain ⟨pf, pk, psl⟩ := p
        dsimp only at hidx hld h8
        have p0 : wr.cell? ⟨b, 0, none⟩ = some (.int .i64 pf) := hpb.cell rfl
        have lb := hpb.lt
        have HPb := Lib.hid hpb1
        have HTa := Lib.hid hta
        have HFr := Lib.hid hfr
        have HIdx := Lib.hid hidx
        have hlt := allL_len (ps.take m)
        rw [List.length_take] at hlt
        have HLt := Lib.hid hlt
        have HLd := Lib.hid hld
        clear hpb hpb1 hta hfr hidx hp hpd h8 hXA hlt hld
        gi_wp2_with (refine wpListIn_load_run 126 rfl _ rfl _ _ rfl HLd.out ?_)
        gi_loopw [5, 6, 20] (fun _ _ i wq => ∃ k : Nat, k ≤ 8 ∧ i = .int .i64 k ∧ J (allL (ps.take m) ++ (pall ⟨pf, pk, psl⟩).take k) wq ∧ KeepT T0 S W wq) (fun _ _ i _ => 8 - (intOf i).toNat)
        case atStart => exact ⟨0, by omega, rfl, by simpa using hJp, hK⟩
        case round =>
          obtain ⟨k, hk, rfl, hJq, hKq⟩ := hrel
          clear hJp p0 lb
          by_cases hk8 : k < 8
          · have hpk := pall_take ⟨pf, pk, psl⟩ k hk8
            have hix := HIdx.out k hk8
            obtain ⟨⟨xk, xd, ⟨xw, xu, xx⟩⟩, hx⟩ : ∃ x, psl.getD k slt0 = x := ⟨_, rfl⟩
            dsimp only at hpk
            rw [hx] at hix hpk
            have hiy : ∀ w, (Instr.index 126 (.agg XA) (.int .i64 (k : Int))).run Tryz.prog w = .ok (.agg #[.int .i64 xk, .int .i64 xd, .bool xw, .bool xu, .bool xx]) w := hix
            have hkz : (k : Int) < 8 := by omega
            have HPk := Lib.hid hpk
            clear hpk hx hix
            gi_wp2_with fail
            have hB0 := bal wr (.cells #[.int .i64 xk, .int .i64 xd, .bool xw, .bool xu, .bool xx] 64)
            have hY0 := Blk.new wr 64 [.int .i64 xk, .int .i64 xd, .bool xw, .bool xu, .bool xx]
            rw [show wr.alloc (.cells [Value.int .i64 xk, .int .i64 xd, .bool xw, .bool xu, .bool xx].toArray 64) = wr.alloc (.cells #[.int .i64 xk, .int .i64 xd, .bool xw, .bool xu, .bool xx] 64) from rfl] at hY0
            have hPq := (HPb.out.keepT hKq hT.2.2 hbn).past hB0
            have hJ1 := hJ _ _ _ none hJq (grownBy_of_below (hB0.trans ((Below.refl _ _).drew.mono hB0.size))) (by simp)
            have hK1 := hKq.trans (KeepT.of_below hB0)
            obtain ⟨yb, hyb⟩ : ∃ yb, wr.heap.size = yb := ⟨_, rfl⟩
            obtain ⟨WB, hWB⟩ : ∃ WB, wr.alloc (.cells #[.int .i64 xk, .int .i64 xd, .bool xw, .bool xu, .bool xx] 64) = WB := ⟨_, rfl⟩
            rw [hWB] at hY0 hPq hJ1 hK1 ⊢
            rw [hyb] at hY0 ⊢
            obtain ⟨fn, tmps, assign, body, hy, hR⟩ := hY _ (pf, k, ⟨xk, xd, ⟨xw, xu, xx⟩⟩) _ hJ1 (by
              have h1 := HLt.out
              have h2 := HPL.out
              rw [List.length_append, List.length_take, pall_len]
              omega)
            have y0 := hY0.cell (k := 0) rfl
            have y1 := hY0.cell (k := 1) rfl
            have y2 := hY0.cell (k := 2) rfl
            have y3 := hY0.cell (k := 3) rfl
            have y4 := hY0.cell (k := 4) rfl
            have q0 : WB.cell? ⟨b, 0, none⟩ = some (.int .i64 pf) := hPq.cell rfl
            have ly := hY0.lt
            have lq := hPq.lt
            have HK1 := Lib.hid hK1
            unfold encAS at hy
            dsimp only at hy
            clear hB0 hWB hY0 hPq hJ1 hK1 hyb hiy
            have hR2 := hR.mono (R' := fun e W' => ∃ bx : Bool, e = .returned (.bool bx) ∧ (bx = true → J (allL (ps.take m) ++ (pall ⟨pf, pk, psl⟩).take (k + 1)) W' ∧ KeepT T0 S WB.drew W') ∧ (bx = false → Jx (allL (ps.take m) ++ (pall ⟨pf, pk, psl⟩).take (k + 1)) W')) (by
              rintro e W' (⟨rfl, h1, h2⟩ | ⟨rfl, h1⟩)
              · rw [List.append_assoc, ← HPk.out] at h1
                exact ⟨true, rfl, fun _ => ⟨h1, h2⟩, fun e => by cases e⟩
              · rw [List.append_assoc, ← HPk.out] at h1
                exact ⟨false, rfl, (fun e => by cases e), fun _ => h1⟩)
            clear hR
            gi_region_with (refine ⟨fun _ => by omega, hR2.mono ?_⟩; rintro e W' ⟨bx, rfl, g1, g2⟩)
            all_goals clear hR2 hy y0 y1 y2 y3 y4 q0 ly lq
            all_goals cases bx
            all_goals first
              | (have hJx2 := g2 rfl
                 have HJ := Lib.hid hJx2
                 clear g1 g2 hJx2
                 gi_wp2
                 rw [Exit.noGoto_normal]
                 refine bodyPost_end (results_none rfl _ _ _) rfl ?_
                 refine ⟨⟨_, rfl⟩, .inr ⟨_, ?_, HJ.out⟩⟩
                 obtain ⟨q, hq⟩ := HFr.out
                 exact ⟨(pall ⟨pf, pk, psl⟩).drop (k + 1) ++ q, by rw [← hq, List.append_assoc, List.append_assoc, ← List.append_assoc (List.take _ _), List.take_append_drop]⟩)
              | (obtain ⟨hJ2, hK2⟩ := g1 rfl
                 have HJ := Lib.hid hJ2
                 have HK2 := Lib.hid hK2
                 clear g1 g2 hJ2 hK2
                 gi_wp2
                 go_roundw
                 case rel => exact ⟨k + 1, by omega, by simp, HJ.out, (HK1.out.drew).trans HK2.out⟩
                 case measure => simp [intOf]; omega)
          · obtain rfl : k = 8 := by omega
            have e8 : (pall ⟨pf, pk, psl⟩).take 8 = pall ⟨pf, pk, psl⟩ := List.take_of_length_le (by rw [pall_len]; exact Nat.le_refl _)
            rw [e8, ← HTa.out] at hJq
            have HJ := Lib.hid hJq
            have HKq := Lib.hid hKq
            clear hJq hKq
            gi_wp2
            go_roundw
            case rel => exact ⟨m + 1, by omega, by simp, HJ.out, HKq.out⟩
            case measure => simp [intOf]; omega
      · obtain rfl : m = len := by omega
        rw [List.take_of_length_le (by rw [← HPL.out]; exact Nat.le_refl _)] at hJp
        have HJ := Lib.hid hJp
        clear hJp
        gi_wp2
        rw [Exit.noGoto_normal]
        refine bodyPost_end (results_none rfl _ _ _) rfl ?_
        exact ⟨⟨_, rfl⟩, .inl ⟨_, rfl, HJ.out⟩⟩

end Go.Proofs.YtglohconhbcchaaGreatDoor
namespace Go.Proofs.YtglohconhbcchaaGreatDoor
open Go.RowKit Go.Shelf
attribute [local go_sem] Oper.semAt_some

def atsL (kind dst : Int) (pre : List (Int × Nat × Slt)) : List (Int × Int) := (pre.filter fun x => toldB kind dst x.2.2).map fun x => (x.1, (x.2.1 : Int))
theorem atsL_append (kind dst : Int) (a b : List (Int × Nat × Slt)) : atsL kind dst (a ++ b) = atsL kind dst a ++ atsL kind dst b := by unfold atsL; rw [List.filter_append, List.map_append]
theorem atsL_stold (kind dst : Int) (ps : List Pg) : atsL kind dst (allL ps) = stold ps kind dst := by
  unfold allL stold
  induction ps with
  | nil => rfl
  | cons p r ih =>
    rw [List.flatMap_cons, List.flatMap_cons, atsL_append, ih]
    congr 1
    unfold atsL pall ptold
    rw [List.filter_map, List.map_map]
    rfl
/-- a slice of places, made since -/
def NewA (B : Nat) (w : World) (v : Value) (l : List (Int × Int)) : Prop := w.ownsRow B 78 2 v l.length (atCells l)
theorem NewA.past {B : Nat} {w w' : World} {v : Value} {l : List (Int × Int)} (h : NewA B w v l) (hb : Below w.heap.size w w') : NewA B w' v l := World.ownsRow.kept h (grownBy_of_below hb) (by cases v.ownBlock <;> simp)
theorem NewA.nil (B : Nat) (w : World) : NewA B w (.slice none 0 0) [] := World.ownsRow_nil _ _ _ _
theorem NewA.form {B : Nat} {w : World} {v : Value} {l : List (Int × Int)} (h : NewA B w v l) : ∃ a c, v = .slice a l.length c := by
  rcases h with ⟨_, ⟨rfl, e⟩ | ⟨g, cap, cur, rfl, h2, _⟩⟩
  · exact ⟨none, 0, by rw [e]⟩
  · exact ⟨_, _, rfl⟩
theorem NewA.sl {B : Nat} {w : World} {v : Value} {l : List (Int × Int)} (h : NewA B w v l) : ∃ a c, v = .slice a l.length c ∧ Sl w a l ∧ ∀ b, v.ownBlock = some b → B ≤ b := by
  rcases h with ⟨hlen, ⟨rfl, e⟩ | ⟨g, cap, cur, rfl, h2, h3, h4, h5, h6, h7⟩⟩
  · have : l = [] := List.length_eq_zero_iff.1 e
    subst this
    exact ⟨none, 0, rfl, .inl ⟨rfl, rfl⟩, fun b hb => by simp [Value.ownBlock] at hb⟩
  · refine ⟨_, _, rfl, .inr ⟨g, cur.toList.drop (l.length * 2), rfl, ?_⟩, fun b hb => by simp [Value.ownBlock] at hb; omega⟩
    unfold Blk
    rw [h3, ← h7, List.take_append_drop]
theorem nrow_past {w w' : World} {B n s : Nat} {e : TypeId} {v : Value} {ys : List Value} (h : w.ownsRow B e s v n ys) (hb : Below w.heap.size w w') : w'.ownsRow B e s v n ys := h.kept (grownBy_of_below hb) (by cases v.ownBlock <;> simp)
theorem nrow_setO {W : World} {base size k : Nat} {e : TypeId} {v : Value} {ys : List Value} (h : W.ownsRow base e size v k ys) {b : Nat} {T : TypeId} {xs : List Value} (hb : Blk W b T xs) (hT : T ≠ e) (j : Nat) (x : Value) : (W.setCell ⟨b, j, none⟩ x).ownsRow base e size v k ys := by
  refine ownsRow_setCell_other h (fun e' => ?_) x
  obtain ⟨c, fr, hc⟩ := ownRow_cells h _ e'
  unfold Blk at hb; rw [hb] at hc; simp at hc; exact hT hc.2.1
theorem store_all (w : World) (sp : Nat) : Calls Tryz.prog 206 #[.pointer (some ⟨sp, 0, none⟩)] w
    fun e w' => e = .returned (.func (.func 217) #[] #[.pointer (some ⟨w.heap.size, 0, none⟩)]) ∧ w' = w.alloc (.cells #[.pointer (some ⟨sp, 0, none⟩)] 39) := by
  go_enter Tryz.func206, Tryz.ntmps206
  go_wp2
  go_ret
  exact ⟨rfl, rfl⟩
/-- what is so between two rounds of told -/
def TI (w : World) (kind dst : Int) (pre : List (Int × Nat × Slt)) (W : World) : Prop :=
  ((∃ sl, Blk W (w.heap.size + 1 + 1) 69 [sl] ∧ NewA w.heap.size W sl (atsL kind dst pre)) ∧ Blk W w.heap.size 3 [.int .i64 kind] ∧ Blk W (w.heap.size + 1) 3 [.int .i64 dst]) ∧ Below w.heap.size w W
theorem TI.past {w : World} {kind dst : Int} {pre : List (Int × Nat × Slt)} {W W' : World} (h : TI w kind dst pre W) (hb : Below W.heap.size W W') : TI w kind dst pre W' := by
  obtain ⟨⟨⟨sl, h2, h3⟩, h4, h5⟩, h6⟩ := h
  exact ⟨⟨⟨sl, h2.past hb, h3.past hb⟩, h4.past hb, h5.past hb⟩, h6.trans (hb.mono h6.size)⟩
theorem TI.own {w : World} {kind dst : Int} {B : Nat} (hB : w.heap.size ≤ B) : OwnFrom B (TI w kind dst) := by
  rintro pre W W' row ⟨⟨⟨sl, h2, h3⟩, h4, h5⟩, h6⟩ hg hr
  exact ⟨⟨⟨sl, h2.own hg (fun r e => (hr r e).2), ownsRow_own h3 hg (fun r e => (hr r e).2)⟩, h4.own hg (fun r e => (hr r e).2), h5.own hg (fun r e => (hr r e).2)⟩, h6.grown hg h6.size (fun k e => Nat.le_trans hB (hr k e).1)⟩
set_option maxRecDepth 100000 in
set_option maxHeartbeats 4000000 in
theorem told_in (n : Nat) (hn : 9 ≤ n) (w : World) (kind dst : Int) (sp : Nat) (x0 x1 pv : Value) (pbs : List Nat) (ps : List Pg) (X : PX w sp x0 x1 pv pbs ps) (hsm : ps.length ≤ 1000) :
    CallsIn Fence.wide n Tryz.prog 170 #[.pointer (some ⟨sp, 0, none⟩), .int .i64 kind, .int .i64 dst] w
      fun e w' => (∃ v, e = .returned v ∧ NewA w.heap.size w' v (stold ps kind dst)) ∧ Below w.heap.size w w' := by
  refine callsIn_of_wp_marks Tryz.func170 rfl trivial ?_ rfl
  simp only [Tryz.ntmps170, List.size_toArray, List.length_cons, List.length_nil, Nat.reduceAdd, Nat.reduceSub, Array.replicate_succ, Array.replicate_zero, List.push_toArray, List.append_toArray, List.nil_append, List.cons_append]
  gi_wp2_with fail
  (with_reducible refine wide3 ?_); go_at_call 206
  refine (store_all _ _).mono ?_
  rintro e WL ⟨rfl, hWL⟩
  have q1 := Blk.new w 3 [.int .i64 kind]
  have q2 := Blk.new (w.alloc (.cells #[.int .i64 kind] 3)) 3 [.int .i64 dst]
  have q3 := Blk.new ((w.alloc (.cells #[.int .i64 kind] 3)).alloc (.cells #[.int .i64 dst] 3)) 69 [.slice none 0 0]
  have q4 := Blk.new (((w.alloc (.cells #[.int .i64 kind] 3)).alloc (.cells #[.int .i64 dst] 3)).alloc (.cells #[.slice none 0 0] 69)) 39 [.pointer (some ⟨sp, 0, none⟩)]
  simp only [World.size_alloc] at q2 q3 q4 hWL ⊢
  have r1 := ((q1.alloc (.cells #[.int .i64 dst] 3)).alloc (.cells #[.slice none 0 0] 69)).alloc (.cells #[.pointer (some ⟨sp, 0, none⟩)] 39)
  have r2 := (q2.alloc (.cells #[.slice none 0 0] 69)).alloc (.cells #[.pointer (some ⟨sp, 0, none⟩)] 39)
  have r3 := q3.alloc (.cells #[.pointer (some ⟨sp, 0, none⟩)] 39)
  have BL : Below w.heap.size w ((((w.alloc (.cells #[.int .i64 kind] 3)).alloc (.cells #[.int .i64 dst] 3)).alloc (.cells #[.slice none 0 0] 69)).alloc (.cells #[.pointer (some ⟨sp, 0, none⟩)] 39)) :=
    ((((Below.refl _ w).alloc (Nat.le_refl _) _).alloc (by simp) _).alloc (by simp; omega) _).alloc (by simp; omega) _
  have hszL : WL.heap.size = w.heap.size + 1 + 1 + 1 + 1 := by rw [hWL]; simp
  have r1 : Blk WL w.heap.size 3 [.int .i64 kind] := by rw [hWL]; exact r1
  have r2 : Blk WL (w.heap.size + 1) 3 [.int .i64 dst] := by rw [hWL]; exact r2
  have r3 : Blk WL (w.heap.size + 1 + 1) 69 [.slice none 0 0] := by rw [hWL]; exact r3
  have q4 : Blk WL (w.heap.size + 1 + 1 + 1) 39 [.pointer (some ⟨sp, 0, none⟩)] := by rw [hWL]; exact q4
  have BL : Below w.heap.size w WL := by rw [hWL]; exact BL
  clear hWL q1 q2 q3
  have XL := X.past BL
  have stops := all_stops (n - 1) (by omega) (fun k => k = w.heap.size + 1 + 1) 78 ⟨by decide, by decide, by decide⟩ WL (w.heap.size + 1 + 1 + 1) sp x0 x1 pv pbs ps XL q4 hsm
    (fun W hW k hk T xs hb => by
      subst hk
      have := (hb.inj (r3.past hW)).2
      subst this
      exact ⟨by decide, by decide, by decide⟩) (fun k hk => by omega)
  clear X XL q4
  gi_wp2_with fail
  refine wpIn_rangeFunc_ownH (F := Fence.wide) rfl (by omega) (gf := 217) (lb := #[.pointer (some ⟨w.heap.size + 1 + 1 + 1, 0, none⟩)]) rfl trivial (enters_of Tryz.func217 (by kernel_rfl) rfl)
    stops KeepT.trans (fun W l o o' _ h ho _ => KeepT.putObj W l o o' h ho) (Below.refl _ _) (fun _ => rfl)
    (TI w kind dst) (fun _ _ _ => False) ?hI ?hIx ?h0
    (fun x a' W => ∃ b8 b9, (w.heap.size + 1 + 1 < b8 ∧ w.heap.size + 1 + 1 < b9 ∧ b8 ≠ b9) ∧ Blk W b8 78 [.int .i64 x.1, .int .i64 (x.2.1 : Int)] ∧ Blk W b9 64 [.int .i64 x.2.2.kind, .int .i64 x.2.2.dst, .bool x.2.2.r.w, .bool x.2.2.r.u, .bool x.2.2.r.x] ∧
      a' = { tmps := #[.pointer (some ⟨sp, 0, none⟩), .int .i64 kind, .int .i64 dst, undef, .pointer (some ⟨w.heap.size, 0, none⟩), .pointer (some ⟨w.heap.size + 1, 0, none⟩), .slice none 0 0, .pointer (some ⟨w.heap.size + 1 + 1, 0, none⟩), .pointer (some ⟨b8, 0, none⟩), .pointer (some ⟨b9, 0, none⟩), .pointer (some ⟨sp, 0, none⟩), .func (.func 217) #[] #[.pointer (some ⟨w.heap.size + 1 + 1 + 1, 0, none⟩)],
        .agg #[.int .i64 x.1, .int .i64 (x.2.1 : Int)], .agg #[.int .i64 x.2.2.kind, .int .i64 x.2.2.dst, .bool x.2.2.r.w, .bool x.2.2.r.u, .bool x.2.2.r.x], undef, undef, undef, undef, undef, undef, undef, undef, undef, undef, undef, undef, undef, undef, undef], defers := [] }) ?hAx ?assign ?body ?done ?stop
  case hI => exact TI.own BL.size
  case hIx => exact fun c _ _ _ _ h => h.elim
  case h0 => exact ⟨⟨⟨_, r3, NewA.nil _ _⟩, r1, r2⟩, BL⟩
  case hAx =>
    rintro x a' s A C row ⟨b8, b9, h1, h2, h3, h4⟩ hg hr
    exact ⟨b8, b9, h1, h2.own hg (fun r e => (hr r e).2), h3.own hg (fun r e => (hr r e).2), h4⟩
  case assign =>
    rintro l pre x W K hi hK
    have ho := hi.1.1.choose_spec.1.lt
    have hiA := fun W' hb => hi.past (W' := W') hb
    clear hi stops r1 r2 r3
    obtain ⟨xf, xi, ⟨xk, xd, ⟨xw, xu, xx⟩⟩⟩ := x
    unfold encAS
    dsimp only
    gi_wp2
    have B1 := bal W (.cells #[.int .i64 xf, .int .i64 (xi : Int)] 78)
    have B2 := bal (W.alloc (.cells #[.int .i64 xf, .int .i64 (xi : Int)] 78)) (.cells #[.int .i64 xk, .int .i64 xd, .bool xw, .bool xu, .bool xx] 64)
    have BB := B1.trans (B2.mono B1.size)
    have y2 := Blk.new (W.alloc (.cells #[.int .i64 xf, .int .i64 (xi : Int)] 78)) 64 [.int .i64 xk, .int .i64 xd, .bool xw, .bool xu, .bool xx]
    rw [World.size_alloc] at y2
    exact hK _ _ (KeepsFrom.of_below BB) (KeepT.of_below BB) (hiA _ BB) ⟨W.heap.size, W.heap.size + 1, ⟨by omega, by omega, by omega⟩, (Blk.new W 78 [.int .i64 xf, .int .i64 (xi : Int)]).alloc _, y2, rfl⟩
  case body =>
    rintro l pre x a' W hl ⟨r, hr⟩ hi ⟨b8, b9, ⟨l1, l2, l3⟩, hb8, hb9, rfl⟩ hlt
    clear hr r hl stops r1 r2 r3
    obtain ⟨⟨⟨sl, hp, hrow⟩, hk, hd⟩, hbw⟩ := hi
    obtain ⟨xf, xi, ⟨xk, xd, ⟨xw, xu, xx⟩⟩⟩ := x
    dsimp only at hb8 hb9 hlt ⊢
    have k0 := hk.cell (k := 0) rfl
    have kl := hk.lt
    have d0 := hd.cell (k := 0) rfl
    have dl := hd.lt
    have a0 := hb8.cell (k := 0) rfl
    have a1 := hb8.cell (k := 1) rfl
    have al := hb8.lt
    have s0 := hb9.cell (k := 0) rfl
    have s1 := hb9.cell (k := 1) rfl
    have s2 := hb9.cell (k := 2) rfl
    have s3 := hb9.cell (k := 3) rfl
    have s4 := hb9.cell (k := 4) rfl
    have sl' := hb9.lt
    have x0' := hp.cell (k := 0) rfl
    have xf' := fun k => hp.free k
    have xl' := hp.lt
    have hap := atsL_append kind dst pre [(xf, xi, ⟨xk, xd, ⟨xw, xu, xx⟩⟩)]
    have HAp := Lib.hid hap
    have HRow := Lib.hid hrow
    have HP := Lib.hid hp
    have HK := Lib.hid hk
    have HD := Lib.hid hd
    have HBw := Lib.hid hbw
    have hlen : (atsL kind dst pre).length ≤ pre.length := by unfold atsL; rw [List.length_map]; exact List.length_filter_le _ _
    clear hap hrow hp hk hd hbw hb8 hb9
    by_cases e1 : xk = kind
    · by_cases e2 : xd = dst
      · subst e1 e2
        obtain ⟨i0, hi, hz0, hz1, hz2⟩ := info_parts info_at
        have HI := Lib.hid hi
        have HZ := Lib.hid hz0
        have HZ1' := Lib.hid hz1
        have HZ2' := Lib.hid hz2
        have hsz := HBw.out.size
        clear hi hz0 hz1 hz2
        obtain ⟨ln, hln⟩ : ∃ n, (atsL xk xd pre).length = n := ⟨_, rfl⟩
        rw [hln] at hlen
        have hrow2 : W.ownsRow w.heap.size 78 2 sl ln (atCells (atsL xk xd pre)) := by rw [← hln]; exact HRow.out
        have HR2 := Lib.hid hrow2
        clear hrow2
        gi_wp2_with (gi_at_builtin; refine wpListIn_append_own _ rfl _ _ 69 rfl w.heap.size 78 i0 _ 2 16 Tryz.underlying69 HI.out HZ.out HZ1'.out HZ2'.out rfl (by decide) _ _ _ rfl (HR2.out.alloc _) ⟨W.heap.size, 0, none⟩ 1 1 [.int .i64 xf, .int .i64 (xi : Int)] rfl rfl (World.news_of_block (cs := #[.int .i64 xf, .int .i64 (xi : Int)]) (t := 78) (fr := (0, 0)) (heap_alloc_new W _)) (by simp [Value.oneCell']) (by unfold maxLen; omega) (by omega) (by simp; omega) ?_; intro v' w3 hown' hgrow _; obtain ⟨g', cap', rfl⟩ := ownsRow_succ hown'; have P3 := (HP.out.alloc (.cells #[.int .i64 xf, .int .i64 (xi : Int)] 78)).grownRow (HR2.out.alloc _) (by decide) hgrow; have p30 := P3.cell (k := 0) rfl; have p3f := fun k => P3.free k; have p3l := P3.lt)
        have oa := HR2.out.alloc (.cells #[.int .i64 xf, .int .i64 (xi : Int)] 78)
        have R3 := (HK.out.alloc (.cells #[.int .i64 xf, .int .i64 (xi : Int)] 78)).grownRow oa (by decide) hgrow
        have E3 := (HD.out.alloc (.cells #[.int .i64 xf, .int .i64 (xi : Int)] 78)).grownRow oa (by decide) hgrow
        have KT : KeepT 78 (fun k => k = w.heap.size + 1 + 1) W w3 := ((KeepT.refl _ _ _).alloc _).grown hgrow (fun k e => .inl (ownRow_cells oa k e))
        have KF : KeepsFrom WL.heap.size W w3 := (KeepsFrom.of_below ((Below.refl W.heap.size W).alloc (Nat.le_refl _) _)).trans (KeepsFrom.grownRow oa hgrow)
        have B3 : Below w.heap.size w w3 := (HBw.out.alloc hsz _).grown hgrow (by simp; omega) (fun k e => (oa.lt k e).1)
        have n1 : w.heap.size ≠ w.heap.size + 1 + 1 := by omega
        have n2 : w.heap.size + 1 ≠ w.heap.size + 1 + 1 := by omega
        refine ⟨KF.trans (KeepsFrom.setCell _ _ ⟨w.heap.size + 1 + 1, 0, none⟩ _), KT.setCell (p := ⟨w.heap.size + 1 + 1, 0, none⟩) rfl _, ⟨⟨⟨_, P3.set 0 _, ?_⟩, R3.other n1 _, E3.other n2 _⟩, B3.setCell (p := ⟨w.heap.size + 1 + 1, 0, none⟩) (by show w.heap.size ≤ w.heap.size + 1 + 1; omega) _⟩⟩
        rw [HAp.out]
        have e : atsL xk xd [(xf, xi, ⟨xk, xd, ⟨xw, xu, xx⟩⟩)] = [(xf, (xi : Int))] := by simp [atsL, toldB]
        rw [e]
        unfold NewA
        rw [List.length_append, hln]
        have ec : atCells (atsL xk xd pre ++ [(xf, (xi : Int))]) = atCells (atsL xk xd pre) ++ [.int .i64 xf, .int .i64 (xi : Int)] := by unfold atCells; rw [List.flatMap_append]; rfl
        rw [ec]
        exact nrow_setO hown' P3 (by decide) 0 _
      · subst e1
        have f2 : (xd == dst) = false := beq_eq_false_iff_ne.2 e2
        have e : atsL xk dst [(xf, xi, ⟨xk, xd, ⟨xw, xu, xx⟩⟩)] = [] := by simp [atsL, toldB, e2]
        rw [e, List.append_nil] at HAp
        gi_wp2
        exact ⟨KeepsFrom.of_below (Below.refl _ _), KeepT.refl _ _ _, ⟨⟨⟨sl, HP.out, by rw [HAp.out]; exact HRow.out⟩, HK.out, HD.out⟩, HBw.out⟩⟩
    · have f1 : (xk == kind) = false := beq_eq_false_iff_ne.2 e1
      have e : atsL kind dst [(xf, xi, ⟨xk, xd, ⟨xw, xu, xx⟩⟩)] = [] := by simp [atsL, toldB, e1]
      rw [e, List.append_nil] at HAp
      gi_wp2
      exact ⟨KeepsFrom.of_below (Below.refl _ _), KeepT.refl _ _ _, ⟨⟨⟨sl, HP.out, by rw [HAp.out]; exact HRow.out⟩, HK.out, HD.out⟩, HBw.out⟩⟩
  case done =>
    rintro D xs W hD hxs ⟨⟨⟨sl, hp, hrow⟩, hk, hd⟩, hbw⟩ hDd
    subst hxs
    rw [atsL_stold] at hrow
    obtain ⟨a, c, rfl⟩ := hrow.form
    have x0 := hp.cell (k := 0) rfl
    have xl := hp.lt
    have HRow := Lib.hid hrow
    clear stops r1 r2 r3 hrow
    gi_wp2
    refine ⟨by simp, .inl ⟨_, _, rfl, run_takeDeferred hDd, ?_⟩⟩
    have hgr := grownBy_putObj' W D (.deferred none)
    have hno : ∀ r, some D = some r → ∃ o : Obj, W.heap[r]? = some o ∧ o.isCells = false := fun r e => by cases e; exact ⟨_, hDd, rfl⟩
    have ho : W.ownsRow w.heap.size 78 2 (.slice a (stold ps kind dst).length c) (stold ps kind dst).length (atCells (stold ps kind dst)) := HRow.out
    have ho2 := ownsRow_own ho hgr hno
    refine ⟨_, results_tmp rfl _ _ _, ⟨⟨.slice a (stold ps kind dst).length c, rfl, ho2⟩, hbw.grown hgr hbw.size (fun k e => by cases e; have := BL.size; omega)⟩⟩
  case stop =>
    rintro D c pre W hD hx h hDd
    exact h.elim
theorem told_any {w : World} {P : Pm} {A : GAd} {V : GVl} {S : SS} (h : SX w P A V S) (kind dst : Int) :
    Calls Tryz.prog 170 #[.pointer (some ⟨A.sp, 0, none⟩), .int .i64 kind, .int .i64 dst] w
      fun e w' => (∃ v, e = .returned v ∧ NewA w.heap.size w' v (stold S.ps kind dst)) ∧ Below w.heap.size w w' := by
  refine (callsIn_wide (n := 9)).1 (told_in 9 (by omega) w kind dst A.sp _ _ _ _ S.ps (px_of h) ?_)
  have h1 := h.inv.cnt; have h2 := h.inv.fr; have h3 := h.inv.top; have h4 := h.inv.small; omega
/-- Parents, Leaves -/
theorem parents_any {w : World} {P : Pm} {A : GAd} {V : GVl} {S : SS} (h : SX w P A V S) (f : Int) :
    Calls Tryz.prog 107 #[.pointer (some ⟨A.sp, 0, none⟩), .int .i64 f] w
      fun e w' => (∃ v, e = .returned v ∧ NewA w.heap.size w' v (stold S.ps 1 f)) ∧ Below w.heap.size w w' := by
  have ht := told_any h 1 f
  have HT := Lib.hid ht
  clear ht h
  go_enter Tryz.func107, Tryz.ntmps107
  go_wp2_with (go_at_call 170; (with_reducible refine HT.out.mono ?_); rintro e W1 ⟨⟨v, rfl, h1⟩, b1⟩)
  go_ret
  exact ⟨⟨v, rfl, h1⟩, b1⟩
theorem leaves_any {w : World} {P : Pm} {A : GAd} {V : GVl} {S : SS} (h : SX w P A V S) (g : Int) :
    Calls Tryz.prog 176 #[.pointer (some ⟨A.sp, 0, none⟩), .int .i64 g] w
      fun e w' => (∃ v, e = .returned v ∧ NewA w.heap.size w' v (stold S.ps 2 g)) ∧ Below w.heap.size w w' := by
  have ht := told_any h 2 g
  have HT := Lib.hid ht
  clear ht h
  go_enter Tryz.func176, Tryz.ntmps176
  go_wp2_with (go_at_call 170; (with_reducible refine HT.out.mono ?_); rintro e W1 ⟨⟨v, rfl, h1⟩, b1⟩)
  go_ret
  exact ⟨⟨v, rfl, h1⟩, b1⟩
end Go.Proofs.YtglohconhbcchaaGreatDoor
