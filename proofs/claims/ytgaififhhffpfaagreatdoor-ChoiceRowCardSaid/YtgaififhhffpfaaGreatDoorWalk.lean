/- walk.Walk: the contract. The places of a path as a slice that is read. -/
import Derived.Test.YtgaififhhffpfaaGreatDoorFind
import Derived.Test.YtgaififhhffpfaaGreatDoorErrAs
namespace Go.Proofs.YtgaififhhffpfaaGreatDoor
open Go.RowKit Go.Shelf

theorem gal {w : World} {a : Addr} {v : Value} (h : w.cell? a = some v) (o : Obj) : (w.alloc o).cell? a = some v := by rw [World.cell?_alloc_some _ _ _ (by rw [h]; rfl)]; exact h
theorem Kept.below' {B B' : Nat} {S : Nat → Prop} {w w' : World} (h : Kept B S w w') (hB : B' ≤ B) (hS : ∀ k, k < B' → ¬ S k) : Below B' w w' := ⟨h.os, h.tape, h.output, h.size, fun k hk => h.block k (Nat.lt_of_lt_of_le hk hB) (hS k hk)⟩
theorem Sl.set {w : World} {a : Option Addr} {l : List (Int × Int)} (h : Sl w a l) {b : Nat} {T : TypeId} {xs : List Value} (hb : Blk w b T xs) (hT : T ≠ 53) (k : Nat) (v : Value) : Sl (w.setCell ⟨b, k, none⟩ v) a l := by
  rcases h with h | ⟨b', rest, h1, h2⟩
  · exact .inl h
  · exact .inr ⟨b', rest, h1, h2.other (fun e => by subst e; exact hT (hb.inj h2).2) v⟩
theorem seven {W w0 : World} {b B0 : Nat} {x0 x1 x2 x3 x4 x5 x6 : Value} (v0 v1 v2 v3 v4 v5 v6 : Value) {a : Option Addr} {l : List (Int × Int)} (h : Blk W b 42 [x0, x1, x2, x3, x4, x5, x6]) (hB : Below B0 w0 W) (hb : B0 ≤ b) (hS : Sl W a l) :
    Blk (((((((W.setCell ⟨b, 0, none⟩ v0).setCell ⟨b, 1, none⟩ v1).setCell ⟨b, 2, none⟩ v2).setCell ⟨b, 3, none⟩ v3).setCell ⟨b, 4, none⟩ v4).setCell ⟨b, 5, none⟩ v5).setCell ⟨b, 6, none⟩ v6) b 42 [v0, v1, v2, v3, v4, v5, v6] ∧
    Below B0 w0 (((((((W.setCell ⟨b, 0, none⟩ v0).setCell ⟨b, 1, none⟩ v1).setCell ⟨b, 2, none⟩ v2).setCell ⟨b, 3, none⟩ v3).setCell ⟨b, 4, none⟩ v4).setCell ⟨b, 5, none⟩ v5).setCell ⟨b, 6, none⟩ v6) ∧
    Sl (((((((W.setCell ⟨b, 0, none⟩ v0).setCell ⟨b, 1, none⟩ v1).setCell ⟨b, 2, none⟩ v2).setCell ⟨b, 3, none⟩ v3).setCell ⟨b, 4, none⟩ v4).setCell ⟨b, 5, none⟩ v5).setCell ⟨b, 6, none⟩ v6) a l := by
  have h0 := h.set 0 v0
  have h1 := h0.set 1 v1
  have h2 := h1.set 2 v2
  have h3 := h2.set 3 v3
  have h4 := h3.set 4 v4
  have h5 := h4.set 5 v5
  have h6 := h5.set 6 v6
  refine ⟨h6, ?_, ?_⟩
  · exact ((((((hB.setCell (p := ⟨b, 0, none⟩) hb v0).setCell (p := ⟨b, 1, none⟩) hb v1).setCell (p := ⟨b, 2, none⟩) hb v2).setCell (p := ⟨b, 3, none⟩) hb v3).setCell (p := ⟨b, 4, none⟩) hb v4).setCell (p := ⟨b, 5, none⟩) hb v5).setCell (p := ⟨b, 6, none⟩) hb v6
  · exact ((((((hS.set h (by decide) 0 v0).set h0 (by decide) 1 v1).set h1 (by decide) 2 v2).set h2 (by decide) 3 v3).set h3 (by decide) 4 v4).set h4 (by decide) 5 v5).set h5 (by decide) 6 v6
/-- What Walk hands back. -/
def out : Except (Int × Int) Path → Path × Int × Int
  | .error e => (Path.none, e.1, e.2)
  | .ok p => (p, 0, 0)

set_option maxRecDepth 100000 in
set_option maxHeartbeats 1000000 in
theorem walk_any (w : World) (p gp hb mp fp fb : Nat) (hosts mem : List Nat) (cap nf : Nat) (root page kind : Int) (user : Bool) (H : Host w fp fb nf mem) (G : Guest w p gp hb mp fp hosts cap nf)
    (hg : w.cell? ⟨0, 0, none⟩ = some (.iface 225 (.agg #[.pointer (some ⟨1, 110, none⟩)]))) :
    Calls Tryz.prog 20 #[.pointer (some ⟨p, 0, none⟩), .int .i64 root, .int .i64 page, .int .i64 kind, .bool user] w
      fun e w' => Below w.heap.size w w' ∧ ∃ a c P h k, out (wk (rd hosts mem) hosts.length root page kind user) = (P, h, k) ∧
        e = .returned (.tuple #[.agg #[.slice a P.ats.length c, .int .i64 P.g, .bool P.r.w, .bool P.r.u, .bool P.r.x, .bool P.large, .bool P.dirty], .int .i64 h, .int .i64 k]) ∧ Sl w' a P.ats := by
  have hf := callsIn_wide.1 (find_in 9 (Nat.le_refl _) (w.alloc (.cells (pathCells (.slice none 0 0) Path.none).toArray 42)) p gp hb mp fp fb hosts mem cap nf root page kind user (H.past ((Below.refl _ w).alloc (Nat.le_refl _) _)) (G.past ((Below.refl _ w).alloc (Nat.le_refl _) _)))
  have h0 : 0 < w.heap.size := lt_of_cell hg
  obtain ⟨r, hr⟩ : ∃ r, wk (rd hosts mem) hosts.length root page kind user = r := ⟨_, rfl⟩
  rw [hr] at hf ⊢
  clear hr H G
  cases r with
  | error hc =>
    obtain ⟨h, c⟩ := hc
    have hP : (h, c) = (h, c) → out (.error (h, c)) = (Path.none, h, c) := fun _ => rfl
    have HP := Lib.hid hP
    clear hP
    refine Calls.mono (R := fun e w' => e = .returned (.tuple #[.agg #[.slice none 0 0, .int .i64 0, .bool false, .bool false, .bool false, .bool false, .bool false], .int .i64 h, .int .i64 c]) ∧ Below w.heap.size w w') ?_ (by
      rintro e w' ⟨h1, h2⟩
      exact ⟨h2, none, 0, Path.none, h, c, rfl, h1, Sl.nil _⟩)
    have hgA := gal hg (.cells #[.slice none 0 0, .int .i64 0, .bool false, .bool false, .bool false, .bool false, .bool false] 42)
    have hT := Blk.new w 42 [.slice none 0 0, .int .i64 0, .bool false, .bool false, .bool false, .bool false, .bool false]
    have HG := Lib.hid hgA
    have HT := Lib.hid hT
    clear hgA hT hg
    go_enter Tryz.func20, Tryz.ntmps20
    go_wp2_with (first
      | (go_at_call 61; refine hf.mono ?_; rintro e W ⟨hB, rfl⟩; have hs0 := hB.size; simp at hs0)
      | (go_at_call 62; refine (as_hit h c _ (.int .i64 0) (.int .i64 0) _ (gal (gal (((bcell hB).1 0 0 (by simp)).trans HG.out) _) _) (by have := Blk.new (W.alloc (.cells #[.slice none 0 0, .int .i64 0, .bool false, .bool false, .bool false, .bool false, .bool false] 42)) 114 [.int .i64 0, .int .i64 0]; simpa using this)).mono ?_; rintro e W2 ⟨rfl, hw2, hk2⟩))
    have hT2 := ((((HT.out.past hB).alloc _).alloc _).kept hk2 (by simp; omega) (by omega))
    have f0 := hw2.cell (k := 0) rfl
    have f1 := hw2.cell (k := 1) rfl
    have t0 := hT2.cell (k := 0) rfl
    have t1 := hT2.cell (k := 1) rfl
    have t2 := hT2.cell (k := 2) rfl
    have t3 := hT2.cell (k := 3) rfl
    have t4 := hT2.cell (k := 4) rfl
    have t5 := hT2.cell (k := 5) rfl
    have t6 := hT2.cell (k := 6) rfl
    have tf := fun k => hT2.free k
    have B1' : Below W.heap.size W W2 := (((Below.refl _ W).alloc (Nat.le_refl _) _).alloc (by simp) _).trans (hk2.below' (by simp; omega) (fun k hk e => by omega))
    have B2 : Below w.heap.size w W2 := ((Below.refl _ w).alloc (Nat.le_refl _) _).trans ((hB.mono (by simp)).trans (B1'.mono (by omega)))
    clear B1'
    have ne1 : w.heap.size ≠ W.heap.size + 1 := by omega
    have RT := ((((((((hT2).set 0 (.slice none 0 0)).set 1 (.int .i64 0)).set 2 (.bool false)).set 3 (.bool false)).set 4 (.bool false)).set 5 (.bool false)).set 6 (.bool false)).drew
    have BB := (((((((((B2).setCell (p := ⟨w.heap.size, 0, none⟩) (Nat.le_refl _) (.slice none 0 0)).setCell (p := ⟨w.heap.size, 1, none⟩) (Nat.le_refl _) (.int .i64 0)).setCell (p := ⟨w.heap.size, 2, none⟩) (Nat.le_refl _) (.bool false)).setCell (p := ⟨w.heap.size, 3, none⟩) (Nat.le_refl _) (.bool false)).setCell (p := ⟨w.heap.size, 4, none⟩) (Nat.le_refl _) (.bool false)).setCell (p := ⟨w.heap.size, 5, none⟩) (Nat.le_refl _) (.bool false)).setCell (p := ⟨w.heap.size, 6, none⟩) (Nat.le_refl _) (.bool false))).drew
    have HR := Lib.hid RT
    have HBB := Lib.hid BB
    clear RT BB B2 HT HG hB hk2
    go_region_held3 (fun w' => w'.cell? ⟨W.heap.size + 1, 0, none⟩ = some (.int .i64 h) ∧ w'.cell? ⟨W.heap.size + 1, 1, none⟩ = some (.int .i64 c)) (go_keep) (fail)
    all_goals go_wp2
    all_goals
      have R := HR.out
      have r0 := R.cell (k := 0) (v := .slice none 0 0) rfl
      have r1 := R.cell (k := 1) (v := .int .i64 0) rfl
      have r2 := R.cell (k := 2) (v := .bool false) rfl
      have r3 := R.cell (k := 3) (v := .bool false) rfl
      have r4 := R.cell (k := 4) (v := .bool false) rfl
      have r5 := R.cell (k := 5) (v := .bool false) rfl
      have r6 := R.cell (k := 6) (v := .bool false) rfl
      refine bodyPost_ret (v := .tuple #[.agg #[.slice none 0 0, .int .i64 0, .bool false, .bool false, .bool false, .bool false, .bool false], .int .i64 h, .int .i64 c]) ?_ rfl ⟨rfl, HBB.out⟩
      clear t0 t1 t2 t3 t4 t5 t6 tf f0 f1
      simp [results, Tryz.results20, go_sem, r0, r1, r2, r3, r4, r5, r6]
  | ok P =>
    obtain ⟨ats, g, r, lg, d⟩ := P
    have hf' : Calls Tryz.prog 61 #[.pointer (some ⟨p, 0, none⟩), .int .i64 root, .int .i64 page, .int .i64 kind, .bool user] (w.alloc (.cells (pathCells (.slice none 0 0) Path.none).toArray 42))
        (fun e w' => Below (w.alloc (.cells (pathCells (.slice none 0 0) Path.none).toArray 42)).heap.size (w.alloc (.cells (pathCells (.slice none 0 0) Path.none).toArray 42)) w' ∧
          ∃ a c, e = .returned (.tuple #[.agg #[.slice a ats.length c, .int .i64 g, .bool r.w, .bool r.u, .bool r.x, .bool lg, .bool d], .nilIface]) ∧ Sl w' a ats) := hf.mono (by
      rintro e w' ⟨h1, sl, h2, h3⟩
      obtain ⟨a, c, rfl, h4⟩ := Sl.of_row h3
      exact ⟨h1, a, c, h2, h4⟩)
    clear hf
    refine Calls.mono (R := fun e w' => Below w.heap.size w w' ∧ ∃ a c, e = .returned (.tuple #[.agg #[.slice a ats.length c, .int .i64 g, .bool r.w, .bool r.u, .bool r.x, .bool lg, .bool d], .int .i64 0, .int .i64 0]) ∧ Sl w' a ats) ?_ (by
      rintro e w' ⟨h1, a, c, h2, h3⟩
      exact ⟨h1, a, c, ⟨ats, g, r, lg, d⟩, 0, 0, rfl, h2, h3⟩)
    have hT := Blk.new w 42 [.slice none 0 0, .int .i64 0, .bool false, .bool false, .bool false, .bool false, .bool false]
    have HT := Lib.hid hT
    clear hT hg
    go_enter Tryz.func20, Tryz.ntmps20
    go_wp2_with (first
      | (go_at_call 61; refine hf'.mono ?_; rintro e W ⟨hB, a, c, rfl, hS⟩; have hs0 := hB.size; simp at hs0; have hT2 := ((HT.out.past hB).alloc (.cells #[.slice a ats.length c, .int .i64 g, .bool r.w, .bool r.u, .bool r.x, .bool lg, .bool d] 42)).alloc (.cells #[.int .i64 0, .int .i64 0] 114); have t0 := hT2.cell (k := 0) rfl; have t1 := hT2.cell (k := 1) rfl; have t2 := hT2.cell (k := 2) rfl; have t3 := hT2.cell (k := 3) rfl; have t4 := hT2.cell (k := 4) rfl; have t5 := hT2.cell (k := 5) rfl; have t6 := hT2.cell (k := 6) rfl; have tf := fun k => hT2.free k)
      | (go_at_call 62; refine (as_nil _ _).mono ?_; rintro e W2 ⟨rfl, rfl⟩))
    have BW : Below w.heap.size w ((W.alloc (.cells #[.slice a ats.length c, .int .i64 g, .bool r.w, .bool r.u, .bool r.x, .bool lg, .bool d] 42)).alloc (.cells #[.int .i64 0, .int .i64 0] 114)) :=
      ((Below.refl _ w).alloc (Nat.le_refl _) _).trans ((hB.mono (by simp)).trans ((((Below.refl _ W).alloc (Nat.le_refl _) _).alloc (by simp) _).mono (by omega)))
    have SW := (hS.past ((Below.refl W.heap.size W).alloc (Nat.le_refl _) (.cells #[.slice a ats.length c, .int .i64 g, .bool r.w, .bool r.u, .bool r.x, .bool lg, .bool d] 42))).past ((Below.refl _ _).alloc (Nat.le_refl _) (.cells #[.int .i64 0, .int .i64 0] 114))
    obtain ⟨Wz, hWz⟩ : ∃ Wz, (W.alloc (.cells #[.slice a ats.length c, .int .i64 g, .bool r.w, .bool r.u, .bool r.x, .bool lg, .bool d] 42)).alloc (.cells #[.int .i64 0, .int .i64 0] 114) = Wz := ⟨_, rfl⟩
    clear t0 t1 t2 t3 t4 t5 t6 tf
    rw [hWz] at hT2 BW SW ⊢
    clear hWz hB hS HT
    obtain ⟨R, BB, SS⟩ := seven (.slice a ats.length c) (.int .i64 g) (.bool r.w) (.bool r.u) (.bool r.x) (.bool lg) (.bool d) hT2 BW (Nat.le_refl _) SW
    have r0 := R.cell (k := 0) rfl
    have r1 := R.cell (k := 1) rfl
    have r2 := R.cell (k := 2) rfl
    have r3 := R.cell (k := 3) rfl
    have r4 := R.cell (k := 4) rfl
    have r5 := R.cell (k := 5) rfl
    have r6 := R.cell (k := 6) rfl
    refine bodyPost_ret (v := .tuple #[.agg #[.slice a ats.length c, .int .i64 g, .bool r.w, .bool r.u, .bool r.x, .bool lg, .bool d], .int .i64 0, .int .i64 0]) ?_ rfl ⟨BB, a, c, rfl, SS⟩
    clear hT2 BW SW R BB SS hf'
    simp [results, Tryz.results20, go_sem, r0, r1, r2, r3, r4, r5, r6]
end Go.Proofs.YtgaififhhffpfaaGreatDoor
