/- walk.Walk: the places that it hands back lie in a block made since (the same walk as walk_any's). -/
import Derived.Test.YtglohconhbcchaaGreatDoorHead
namespace Go.Proofs.YtglohconhbcchaaGreatDoor
open Go.RowKit Go.Shelf

theorem row_lo {w : World} {base n : Nat} {v : Value} {l : List Value} {T : TypeId} {k : Nat} (h : w.ownsRow base T k v n l) : ∀ x, (∃ a m c, v = .slice a m c ∧ a = some x) → base ≤ x.block := by
  rintro x ⟨a, m, c, e, rfl⟩
  rcases h.2 with ⟨e2, _⟩ | ⟨g, cap, cur, e2, hb, _⟩
  · rw [e2] at e; cases e
  · rw [e2] at e; cases e; exact hb
set_option maxRecDepth 100000 in
set_option maxHeartbeats 1000000 in
theorem walk_new (w : World) (p gp hb mp fp fb : Nat) (hosts mem : List Nat) (cap nf : Nat) (root page kind : Int) (user : Bool) (H : Host w fp fb nf mem) (G : Guest w p gp hb mp fp hosts cap nf)
    (hg : w.cell? ⟨0, 0, none⟩ = some (.iface 266 (.agg #[.pointer (some ⟨1, 147, none⟩)]))) :
    Calls Tryz.prog 25 #[.pointer (some ⟨p, 0, none⟩), .int .i64 root, .int .i64 page, .int .i64 kind, .bool user] w
      fun e w' => Below w.heap.size w w' ∧ ∃ a c P h k, out (wk (rd hosts mem) hosts.length root page kind user) = (P, h, k) ∧
        e = .returned (.tuple #[.agg #[.slice a P.ats.length c, .int .i64 P.g, .bool P.r.w, .bool P.r.u, .bool P.r.x, .bool P.large, .bool P.dirty], .int .i64 h, .int .i64 k]) ∧ Sl w' a P.ats ∧ ∀ x, a = some x → w.heap.size ≤ x.block := by
  have hf := callsIn_wide.1 (find_in 9 (Nat.le_refl _) (w.alloc (.cells (pathCells (.slice none 0 0) Path.none).toArray 71)) p gp hb mp fp fb hosts mem cap nf root page kind user (H.past ((Below.refl _ w).alloc (Nat.le_refl _) _)) (G.past ((Below.refl _ w).alloc (Nat.le_refl _) _)))
  have h0 : 0 < w.heap.size := lt_of_cell hg
  obtain ⟨r, hr⟩ : ∃ r, wk (rd hosts mem) hosts.length root page kind user = r := ⟨_, rfl⟩
  rw [hr] at hf ⊢
  clear hr H G
  cases r with
  | error hc =>
    obtain ⟨h, c⟩ := hc
    have hP : (h, c) = (h, c) → out (.error (h, c)) = (Path.none, h, c) := fun _ => rfl
    have HP := Lib.hid hP
    clear hP
    refine Calls.mono (R := fun e w' => e = .returned (.tuple #[.agg #[.slice none 0 0, .int .i64 0, .bool false, .bool false, .bool false, .bool false, .bool false], .int .i64 h, .int .i64 c]) ∧ Below w.heap.size w w') ?_ (by
      rintro e w' ⟨h1, h2⟩
      exact ⟨h2, none, 0, Path.none, h, c, rfl, h1, Sl.nil _, fun x hx => by cases hx⟩)
    have hgA := gal hg (.cells #[.slice none 0 0, .int .i64 0, .bool false, .bool false, .bool false, .bool false, .bool false] 71)
    have hT := Blk.new w 71 [.slice none 0 0, .int .i64 0, .bool false, .bool false, .bool false, .bool false, .bool false]
    have HG := Lib.hid hgA
    have HT := Lib.hid hT
    clear hgA hT hg
    go_enter Tryz.func25, Tryz.ntmps25
    go_wp2_with (first
      | (go_at_call 72; refine hf.mono ?_; rintro e W ⟨hB, rfl⟩; have hs0 := hB.size; simp at hs0)
      | (go_at_call 73; refine (as_hit h c _ (.int .i64 0) (.int .i64 0) _ (gal (gal (((bcell hB).1 0 0 (by simp)).trans HG.out) _) _) (by have := Blk.new (W.alloc (.cells #[.slice none 0 0, .int .i64 0, .bool false, .bool false, .bool false, .bool false, .bool false] 71)) 151 [.int .i64 0, .int .i64 0]; simpa using this)).mono ?_; rintro e W2 ⟨rfl, hw2, hk2⟩))
    have hT2 := ((((HT.out.past hB).alloc _).alloc _).kept hk2 (by simp; omega) (by omega))
    have f0 := hw2.cell (k := 0) rfl
    have f1 := hw2.cell (k := 1) rfl
    have t0 := hT2.cell (k := 0) rfl
    have t1 := hT2.cell (k := 1) rfl
    have t2 := hT2.cell (k := 2) rfl
    have t3 := hT2.cell (k := 3) rfl
    have t4 := hT2.cell (k := 4) rfl
    have t5 := hT2.cell (k := 5) rfl
    have t6 := hT2.cell (k := 6) rfl
    have tf := fun k => hT2.free k
    have B1' : Below W.heap.size W W2 := (((Below.refl _ W).alloc (Nat.le_refl _) _).alloc (by simp) _).trans (hk2.below' (by simp; omega) (fun k hk e => by omega))
    have B2 : Below w.heap.size w W2 := ((Below.refl _ w).alloc (Nat.le_refl _) _).trans ((hB.mono (by simp)).trans (B1'.mono (by omega)))
    clear B1'
    have ne1 : w.heap.size ≠ W.heap.size + 1 := by omega
    have RT := ((((((((hT2).set 0 (.slice none 0 0)).set 1 (.int .i64 0)).set 2 (.bool false)).set 3 (.bool false)).set 4 (.bool false)).set 5 (.bool false)).set 6 (.bool false)).drew
    have BB := (((((((((B2).setCell (p := ⟨w.heap.size, 0, none⟩) (Nat.le_refl _) (.slice none 0 0)).setCell (p := ⟨w.heap.size, 1, none⟩) (Nat.le_refl _) (.int .i64 0)).setCell (p := ⟨w.heap.size, 2, none⟩) (Nat.le_refl _) (.bool false)).setCell (p := ⟨w.heap.size, 3, none⟩) (Nat.le_refl _) (.bool false)).setCell (p := ⟨w.heap.size, 4, none⟩) (Nat.le_refl _) (.bool false)).setCell (p := ⟨w.heap.size, 5, none⟩) (Nat.le_refl _) (.bool false)).setCell (p := ⟨w.heap.size, 6, none⟩) (Nat.le_refl _) (.bool false))).drew
    have HR := Lib.hid RT
    have HBB := Lib.hid BB
    clear RT BB B2 HT HG hB hk2
    go_region_held3 (fun w' => w'.cell? ⟨W.heap.size + 1, 0, none⟩ = some (.int .i64 h) ∧ w'.cell? ⟨W.heap.size + 1, 1, none⟩ = some (.int .i64 c)) (go_keep) (fail)
    all_goals go_wp2
    all_goals
      have R := HR.out
      have r0 := R.cell (k := 0) (v := .slice none 0 0) rfl
      have r1 := R.cell (k := 1) (v := .int .i64 0) rfl
      have r2 := R.cell (k := 2) (v := .bool false) rfl
      have r3 := R.cell (k := 3) (v := .bool false) rfl
      have r4 := R.cell (k := 4) (v := .bool false) rfl
      have r5 := R.cell (k := 5) (v := .bool false) rfl
      have r6 := R.cell (k := 6) (v := .bool false) rfl
      refine bodyPost_ret (v := .tuple #[.agg #[.slice none 0 0, .int .i64 0, .bool false, .bool false, .bool false, .bool false, .bool false], .int .i64 h, .int .i64 c]) ?_ rfl ⟨rfl, HBB.out⟩
      clear t0 t1 t2 t3 t4 t5 t6 tf f0 f1
      simp [results, Tryz.results25, go_sem, r0, r1, r2, r3, r4, r5, r6]
  | ok P =>
    obtain ⟨ats, g, r, lg, d⟩ := P
    have hf' : Calls Tryz.prog 72 #[.pointer (some ⟨p, 0, none⟩), .int .i64 root, .int .i64 page, .int .i64 kind, .bool user] (w.alloc (.cells (pathCells (.slice none 0 0) Path.none).toArray 71))
        (fun e w' => Below (w.alloc (.cells (pathCells (.slice none 0 0) Path.none).toArray 71)).heap.size (w.alloc (.cells (pathCells (.slice none 0 0) Path.none).toArray 71)) w' ∧
          ∃ a c, e = .returned (.tuple #[.agg #[.slice a ats.length c, .int .i64 g, .bool r.w, .bool r.u, .bool r.x, .bool lg, .bool d], .nilIface]) ∧ Sl w' a ats ∧ ∀ x, a = some x → w.heap.size ≤ x.block) := hf.mono (by
      rintro e w' ⟨h1, sl, h2, h3⟩
      have hlo := row_lo h3
      obtain ⟨a, c, rfl, h4⟩ := Sl.of_row h3
      exact ⟨h1, a, c, h2, h4, fun x hx => Nat.le_trans (by simp) (hlo x ⟨_, _, _, rfl, hx⟩)⟩)
    clear hf
    refine Calls.mono (R := fun e w' => Below w.heap.size w w' ∧ ∃ a c, e = .returned (.tuple #[.agg #[.slice a ats.length c, .int .i64 g, .bool r.w, .bool r.u, .bool r.x, .bool lg, .bool d], .int .i64 0, .int .i64 0]) ∧ Sl w' a ats ∧ ∀ x, a = some x → w.heap.size ≤ x.block) ?_ (by
      rintro e w' ⟨h1, a, c, h2, h3⟩
      exact ⟨h1, a, c, ⟨ats, g, r, lg, d⟩, 0, 0, rfl, h2, h3⟩)
    have hT := Blk.new w 71 [.slice none 0 0, .int .i64 0, .bool false, .bool false, .bool false, .bool false, .bool false]
    have HT := Lib.hid hT
    clear hT hg
    go_enter Tryz.func25, Tryz.ntmps25
    go_wp2_with (first
      | (go_at_call 72; refine hf'.mono ?_; rintro e W ⟨hB, a, c, rfl, hS, hLo⟩; have hs0 := hB.size; simp at hs0; have hT2 := ((HT.out.past hB).alloc (.cells #[.slice a ats.length c, .int .i64 g, .bool r.w, .bool r.u, .bool r.x, .bool lg, .bool d] 71)).alloc (.cells #[.int .i64 0, .int .i64 0] 151); have t0 := hT2.cell (k := 0) rfl; have t1 := hT2.cell (k := 1) rfl; have t2 := hT2.cell (k := 2) rfl; have t3 := hT2.cell (k := 3) rfl; have t4 := hT2.cell (k := 4) rfl; have t5 := hT2.cell (k := 5) rfl; have t6 := hT2.cell (k := 6) rfl; have tf := fun k => hT2.free k)
      | (go_at_call 73; refine (as_nil _ _).mono ?_; rintro e W2 ⟨rfl, rfl⟩))
    have BW : Below w.heap.size w ((W.alloc (.cells #[.slice a ats.length c, .int .i64 g, .bool r.w, .bool r.u, .bool r.x, .bool lg, .bool d] 71)).alloc (.cells #[.int .i64 0, .int .i64 0] 151)) :=
      ((Below.refl _ w).alloc (Nat.le_refl _) _).trans ((hB.mono (by simp)).trans ((((Below.refl _ W).alloc (Nat.le_refl _) _).alloc (by simp) _).mono (by omega)))
    have SW := (hS.past ((Below.refl W.heap.size W).alloc (Nat.le_refl _) (.cells #[.slice a ats.length c, .int .i64 g, .bool r.w, .bool r.u, .bool r.x, .bool lg, .bool d] 71))).past ((Below.refl _ _).alloc (Nat.le_refl _) (.cells #[.int .i64 0, .int .i64 0] 151))
    obtain ⟨Wz, hWz⟩ : ∃ Wz, (W.alloc (.cells #[.slice a ats.length c, .int .i64 g, .bool r.w, .bool r.u, .bool r.x, .bool lg, .bool d] 71)).alloc (.cells #[.int .i64 0, .int .i64 0] 151) = Wz := ⟨_, rfl⟩
    have HLo := Lib.hid hLo
    clear t0 t1 t2 t3 t4 t5 t6 tf hLo
    rw [hWz] at hT2 BW SW ⊢
    clear hWz hB hS HT
    obtain ⟨R, BB, SS⟩ := seven (.slice a ats.length c) (.int .i64 g) (.bool r.w) (.bool r.u) (.bool r.x) (.bool lg) (.bool d) hT2 BW (Nat.le_refl _) SW
    have r0 := R.cell (k := 0) rfl
    have r1 := R.cell (k := 1) rfl
    have r2 := R.cell (k := 2) rfl
    have r3 := R.cell (k := 3) rfl
    have r4 := R.cell (k := 4) rfl
    have r5 := R.cell (k := 5) rfl
    have r6 := R.cell (k := 6) rfl
    refine bodyPost_ret (v := .tuple #[.agg #[.slice a ats.length c, .int .i64 g, .bool r.w, .bool r.u, .bool r.x, .bool lg, .bool d], .int .i64 0, .int .i64 0]) ?_ rfl ⟨BB, a, c, rfl, SS, HLo.out⟩
    clear hT2 BW SW R BB SS hf'
    simp [results, Tryz.results25, go_sem, r0, r1, r2, r3, r4, r5, r6]
theorem gm_walk_new {w : World} {p fb n : Nat} {hosts mem : List Nat} (M : GM w p fb hosts n mem) (hg : EC w) (root page kind : Int) (user : Bool) (P : Path) (h k : Int) (ho : out (wk (rd hosts mem) hosts.length root page kind user) = (P, h, k)) :
    Calls Tryz.prog 25 #[.pointer (some ⟨p, 0, none⟩), .int .i64 root, .int .i64 page, .int .i64 kind, .bool user] w
      fun e w' => Below w.heap.size w w' ∧ ∃ a c, e = .returned (.tuple #[.agg #[.slice a P.ats.length c, .int .i64 P.g, .bool P.r.w, .bool P.r.u, .bool P.r.x, .bool P.large, .bool P.dirty], .int .i64 h, .int .i64 k]) ∧ Sl w' a P.ats ∧ ∀ x, a = some x → w.heap.size ≤ x.block := by
  obtain ⟨gp, hb', mb, fp, cap, H, G⟩ := M
  refine (walk_new w p gp hb' mb fp fb hosts mem cap n root page kind user H G hg).mono ?_
  rintro e w' ⟨h1, a, c, P', h', k', h2, h3, h4⟩
  rw [ho] at h2
  simp only [Prod.mk.injEq] at h2
  obtain ⟨rfl, rfl, rfl⟩ := h2
  exact ⟨h1, a, c, h3, h4⟩
end Go.Proofs.YtglohconhbcchaaGreatDoor
