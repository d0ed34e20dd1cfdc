/- The reference's Same of two paths. -/
import Derived.Test.YtgaififhhffpfaaGreatDoorPath
import Derived.Test.YtgaififhhffpfaaGreatDoorMark
import Derived.Deep.QuietTactic
import Derived.Laws.StructEq
namespace Go.Proofs.YtgaififhhffpfaaGreatDoor
open Go.RowKit

set_option maxRecDepth 100000 in
set_option maxHeartbeats 2000000 in
theorem same_loop (w : World) (a a' : Option Addr) (c c' : Nat) (l l' : List (Int × Int)) (g g' : Int) (r r' : Rt) (lg lg' d d' : Bool) (hs : Sl w a l) (hs' : Sl w a' l')
    (len : Nat) (h1 : l.length = len) (h2 : l'.length = len) (hsm : len ≤ 1000) :
    Calls Tryz.prog 44 #[.agg #[.slice a len c, .int .i64 g, .bool r.w, .bool r.u, .bool r.x, .bool lg, .bool d], .agg #[.slice a' len c', .int .i64 g', .bool r'.w, .bool r'.u, .bool r'.x, .bool lg', .bool d']] w
      fun e w' => e = .returned (.bool (decide (l = l' ∧ g = g' ∧ r = r' ∧ lg = lg' ∧ d = d'))) ∧ Below w.heap.size w w' := by
  obtain ⟨rw1, ru, rx⟩ := r
  obtain ⟨rw', ru', rx'⟩ := r'
  dsimp only
  obtain ⟨res, hres⟩ : ∃ res, decide (l = l' ∧ g = g' ∧ (Rt.mk rw1 ru rx) = (Rt.mk rw' ru' rx') ∧ lg = lg' ∧ d = d') = res := ⟨_, rfl⟩
  rw [hres]
  have HR := Lib.hid hres
  have H1 := Lib.hid h1
  have H2 := Lib.hid h2
  clear hres h1 h2
  have hA := Below.refl w.heap.size w
  go_enter Tryz.func44, Tryz.ntmps44
  go_wp2_with fail
  go_loopw [5] (fun i wr => ∃ k : Nat, k ≤ len ∧ i = .int .i64 k ∧ (∀ j, j < k → l.getD j (0, 0) = l'.getD j (0, 0)) ∧ Sl wr a l ∧ Sl wr a' l' ∧
    Blk wr w.heap.size 42 [.slice a len c, .int .i64 g, .bool rw1, .bool ru, .bool rx, .bool lg, .bool d] ∧ Blk wr (w.heap.size + 1) 42 [.slice a' len c', .int .i64 g', .bool rw', .bool ru', .bool rx', .bool lg', .bool d'] ∧ Below w.heap.size w wr) (fun i _ => len - (intOf i).toNat)
  case atStart =>
    refine ⟨0, by omega, rfl, fun j hj => by omega, hs.past ((hA.alloc (Nat.le_refl _) _).alloc (by simp) _), hs'.past ((hA.alloc (Nat.le_refl _) _).alloc (by simp) _), (Blk.new w _ _).alloc _, ?_, (hA.alloc (Nat.le_refl _) _).alloc (by simp) _⟩
    have := Blk.new (w.alloc (.cells #[.slice a len c, .int .i64 g, .bool rw1, .bool ru, .bool rx, .bool lg, .bool d] 42)) 42 [.slice a' len c', .int .i64 g', .bool rw', .bool ru', .bool rx', .bool lg', .bool d']
    simpa using this
  case round =>
    obtain ⟨k, hk, rfl, hall, y, y', z, z', hB⟩ := hrel
    clear hs hs' hA
    have z0 := z.cell (k := 0) rfl
    have z0' := z'.cell (k := 0) rfl
    by_cases hkl : k < len
    · obtain ⟨b, rest, rfl, yb⟩ : ∃ b rest, a = some ⟨b, 0, none⟩ ∧ Blk wr b 53 (atCells l ++ rest) := by
        rcases y with ⟨_, h⟩ | h
        · rw [h] at H1; have := H1.out; simp at this; omega
        · exact h
      obtain ⟨b', rest', rfl, yb'⟩ : ∃ b rest, a' = some ⟨b, 0, none⟩ ∧ Blk wr b 53 (atCells l' ++ rest) := by
        rcases y' with ⟨_, h⟩ | h
        · rw [h] at H2; have := H2.out; simp at this; omega
        · exact h
      obtain ⟨c0, c1⟩ := Sl.at yb k (by rw [H1.out]; exact hkl)
      obtain ⟨c0', c1'⟩ := Sl.at yb' k (by rw [H2.out]; exact hkl)
      obtain ⟨⟨x1, x2⟩, hx⟩ : ∃ x, l.getD k (0, 0) = x := ⟨_, rfl⟩
      obtain ⟨⟨x1', x2'⟩, hx'⟩ : ∃ x, l'.getD k (0, 0) = x := ⟨_, rfl⟩
      rw [hx] at c0 c1
      rw [hx'] at c0' c1'
      dsimp only at c0 c1 c0' c1'
      have HX := Lib.hid hx
      have HX' := Lib.hid hx'
      have HA := Lib.hid hall
      clear hx hx' hall hk
      have u40 := Tryz.underlying53
      have hp40 : Tryz.prog.stoodInHeld 53 = false := by kernel_rfl
      have hg40 : Tryz.prog.eqGuardType Tryz.prog.depth 53 = false := by kernel_rfl
      have Y := Lib.hid y
      have Y' := Lib.hid y'
      have Z := Lib.hid z
      have Z' := Lib.hid z'
      clear y y' z z' yb yb'
      by_cases e1 : x1 = x1'
      · by_cases e2 : x2 = x2'
        · subst e1 e2
          go_wp2_with fail
          go_quiet (fail)
          go_wp2
          go_roundw
          case rel =>
            refine ⟨k + 1, by omega, by simp, fun j hj => ?_, Y.out.past (below_of_drewN _ _), Y'.out.past (below_of_drewN _ _), Z.out.drewN _, Z'.out.drewN _, below_drewN hB _⟩
            by_cases hjk : j < k
            · exact HA.out j hjk
            · obtain rfl : j = k := by omega
              rw [HX.out, HX'.out]
          case measure => simp [intOf]; omega
        · subst e1
          have f2 : (x2 == x2') = false := beq_eq_false_iff_ne.2 e2
          go_wp2_with fail
          go_quiet (fail)
          go_wp2
          go_ret
          refine ⟨?_, below_drewN hB _⟩
          rw [← HR.out]
          have : ¬ l = l' := fun e => by subst e; rw [HX.out] at HX'; have := HX'.out; simp at this; exact e2 this
          simp [this]
      · have f1 : (x1 == x1') = false := beq_eq_false_iff_ne.2 e1
        go_wp2_with fail
        go_quiet (fail)
        go_wp2
        go_ret
        refine ⟨?_, below_drewN hB _⟩
        rw [← HR.out]
        have : ¬ l = l' := fun e => by subst e; rw [HX.out] at HX'; have := HX'.out; simp at this; exact e1 this.1
        simp [this]
    · obtain rfl : k = len := by omega
      have hl : l = l' := by
        refine List.ext_getElem (by rw [H1.out, H2.out]) fun j h1 h2 => ?_
        have := hall j (by rw [← H1.out]; exact h1)
        rw [getD_at _ h1, getD_at _ h2] at this
        exact this
      have HL := Lib.hid hl
      have z1 := z.cell (k := 1) rfl
      have z2 := z.cell (k := 2) rfl
      have z3 := z.cell (k := 3) rfl
      have z4 := z.cell (k := 4) rfl
      have z5 := z.cell (k := 5) rfl
      have z6 := z.cell (k := 6) rfl
      have z1' := z'.cell (k := 1) rfl
      have z2' := z'.cell (k := 2) rfl
      have z3' := z'.cell (k := 3) rfl
      have z4' := z'.cell (k := 4) rfl
      have z5' := z'.cell (k := 5) rfl
      have z6' := z'.cell (k := 6) rfl
      have u29 := Tryz.underlying40
      have hp29 : Tryz.prog.stoodInHeld 40 = false := by kernel_rfl
      have hg29 : Tryz.prog.eqGuardType Tryz.prog.depth 40 = false := by kernel_rfl
      clear hl hall y y' z z'
      by_cases eg : g = g'
      · subst eg
        by_cases e1 : rw1 = rw'
        · subst e1
          by_cases e2 : ru = ru'
          · subst e2
            by_cases e3 : rx = rx'
            · subst e3
              by_cases e4 : lg = lg'
              · subst e4
                by_cases e5 : d = d'
                · subst e5
                  cases d <;> cases lg <;>
                  · go_wp2
                    go_ret
                    exact ⟨by rw [← HR.out]; simp [HL.out], hB⟩
                · cases lg <;> cases d <;> cases d' <;> first
                    | exact absurd rfl e5
                    | (clear e5; go_wp2; go_ret; exact ⟨by rw [← HR.out]; simp, hB⟩)
              · cases lg <;> cases lg' <;> first
                  | exact absurd rfl e4
                  | (clear e4; go_wp2; go_ret; exact ⟨by rw [← HR.out]; simp, hB⟩)
            · cases rx <;> cases rx' <;> first
                | exact absurd rfl e3
                | (clear e3; go_wp2; go_ret; exact ⟨by rw [← HR.out]; simp, hB⟩)
          · cases ru <;> cases ru' <;> first
              | exact absurd rfl e2
              | (clear e2; go_wp2; go_ret; exact ⟨by rw [← HR.out]; simp, hB⟩)
        · cases rw1 <;> cases rw' <;> first
            | exact absurd rfl e1
            | (clear e1; go_wp2; go_ret; exact ⟨by rw [← HR.out]; simp, hB⟩)
      · have fg : (g == g') = false := beq_eq_false_iff_ne.2 eg
        go_wp2
        go_ret
        exact ⟨by rw [← HR.out]; simp [eg], hB⟩

theorem same_any (w : World) (a a' : Option Addr) (c c' : Nat) (p q : Path) (hs : Sl w a p.ats) (hs' : Sl w a' q.ats) (hsm : p.ats.length ≤ 1000) (hsm' : q.ats.length ≤ 1000) :
    Calls Tryz.prog 44 #[.agg #[.slice a p.ats.length c, .int .i64 p.g, .bool p.r.w, .bool p.r.u, .bool p.r.x, .bool p.large, .bool p.dirty], .agg #[.slice a' q.ats.length c', .int .i64 q.g, .bool q.r.w, .bool q.r.u, .bool q.r.x, .bool q.large, .bool q.dirty]] w
      fun e w' => e = .returned (.bool (decide (p = q))) ∧ Below w.heap.size w w' := by
  obtain ⟨l, g, r, lg, d⟩ := p
  obtain ⟨l', g', r', lg', d'⟩ := q
  dsimp only at *
  have hd : decide (Path.mk l g r lg d = Path.mk l' g' r' lg' d') = decide (l = l' ∧ g = g' ∧ r = r' ∧ lg = lg' ∧ d = d') := by rw [Bool.eq_iff_iff]; simp
  by_cases hl : l.length = l'.length
  · rw [hd]
    have := same_loop w a a' c c' l l' g g' r r' lg lg' d d' hs hs' l'.length hl rfl hsm'
    rw [hl]
    exact this
  · have hne : decide (Path.mk l g r lg d = Path.mk l' g' r' lg' d') = false := by rw [hd]; simp; intro h; rw [h] at hl; exact absurd rfl hl
    rw [hne]
    obtain ⟨n, hn⟩ : ∃ n, l.length = n := ⟨_, rfl⟩
    obtain ⟨n', hn'⟩ : ∃ n, l'.length = n := ⟨_, rfl⟩
    rw [hn] at hl hsm ⊢
    rw [hn'] at hl hsm' ⊢
    clear hd hne hs hs' hn hn'
    have hf : ((n : Int) != (n' : Int)) = true := by rw [bne_iff_ne]; omega
    go_enter Tryz.func44, Tryz.ntmps44
    go_wp2
    go_ret
    exact ⟨rfl, ((Below.refl _ w).alloc (Nat.le_refl _) _).alloc (by simp) _⟩
end Go.Proofs.YtgaififhhffpfaaGreatDoor
