/- tlb.Tlb: its state, and the contracts of New, at, Get, Drop, Put, All, List. -/
import Derived.Test.YtgaififhhffpfaaGreatDoorHit
namespace Go.Proofs.YtgaififhhffpfaaGreatDoor
open Go.RowKit Go.Shelf

theorem ownsRow_base0 {w : World} {base : Nat} {e : TypeId} {size : Nat} {v : Value} {k : Nat} {xs : List Value} (h : w.ownsRow base e size v k xs) : w.ownsRow 0 e size v k xs := ownsRow_base h (Nat.zero_le _)
theorem heql_nil (g k c : Nat) (w : World) : (binOp .eql 63 (.slice (some ⟨g, 0, none⟩) k c) (.slice none 0 0)).run Tryz.prog w = .ok (.bool false) w := by kernel_rfl
theorem heql_nil0 (w : World) : (binOp .eql 63 (.slice none 0 0) (.slice none 0 0)).run Tryz.prog w = .ok (.bool true) w := by kernel_rfl
set_option maxRecDepth 100000 in
theorem hclone_any (w : World) (v : Value) (l : List Hit) (hr : HRow w v l) (hsm : l.length ≤ 1000000) :
    Calls Tryz.prog 136 #[v] w fun e w' => (∃ v', e = .returned v' ∧ HRow w' v' l) ∧ Below w.heap.size w w' := by
  rcases hr.view with ⟨rfl, rfl⟩ | ⟨g, cap, rest, rfl, hb, _, _, _⟩
  · clear hr
    have hnil := heql_nil0
    go_enter Tryz.func136, Tryz.ntmps136
    go_wp2
    go_ret
    exact ⟨⟨_, rfl, HRow.nil _⟩, Below.refl _ _⟩
  · obtain ⟨i0, hi, hz0, hz1, hz2⟩ := info_parts info_hit
    obtain ⟨n, hn⟩ : ∃ n, l.length = n := ⟨_, rfl⟩
    have hcells : ∀ (o : Obj) j u, (hitsC l)[j]? = some u → (w.alloc o).cell? ((⟨g, 0, none⟩ : Addr).add j) = some u := by
      intro o j u hu
      rw [add0]
      refine (hb.alloc o).cell ?_
      rw [List.getElem?_append_left (List.getElem?_eq_some_iff.1 hu).1]; exact hu
    have hg := hb.lt
    have hl : (hitsC l).length = n * 7 := by rw [hitsC_len, hn]
    have hx := hitsC_one l
    rw [hn] at hsm ⊢
    have HN := Lib.hid hn
    have HC := Lib.hid hcells
    have HX := Lib.hid hx
    have HL := Lib.hid hl
    have H1 := Lib.hid hi
    have HZ0 := Lib.hid hz0
    have HZ1 := Lib.hid hz1
    have HZ2 := Lib.hid hz2
    have hnil := fun w => heql_nil g n cap w
    have hemp : (w.alloc (.cells #[] 49)).ownsRow w.heap.size 49 7 (.slice (some ⟨w.heap.size, 0, none⟩) 0 0) 0 [] := ⟨rfl, .inr ⟨w.heap.size, 0, #[], rfl, Nat.le_refl _, heap_alloc_new w _, Nat.le_refl _, by unfold maxLen; omega, rfl, rfl⟩⟩
    clear hcells hx hl hi hz0 hz1 hz2 hb hr hn
    go_enter Tryz.func136, Tryz.ntmps136
    go_wp2_with (first
      | (at_builtin; refine wpList_append_own _ rfl _ _ 63 rfl w.heap.size 49 i0 _ 7 32 Tryz.underlying63 H1.out HZ0.out HZ1.out HZ2.out rfl (by decide) _ 0 [] rfl hemp ⟨g, 0, none⟩ n cap (hitsC l) rfl HL.out (HC.out _) HX.out (by unfold maxLen; omega) (by omega) (by simp) ?_; intro v' w2 hown hgrow hnz; have HO := Lib.hid hown; have HG := Lib.hid hgrow; clear hown hgrow hnz hemp))
    go_ret
    have BB : Below w.heap.size w w2 := ((Below.refl _ w).alloc (Nat.le_refl _) _).grown HG.out (by simp) (fun r e => Nat.le_of_eq (Option.some.inj (show some w.heap.size = some r from e)))
    refine ⟨⟨_, rfl, ?_⟩, BB⟩
    have ho := ownsRow_base0 HO.out
    simp only [List.nil_append, Nat.zero_add] at ho
    unfold HRow
    rw [HN.out]; exact ho

/-- is a hit one of a space and a page? -/
def ofKey (asid page : Int) (h : Hit) : Bool := decide (h.asid = asid) && decide (h.page = page)
theorem keyOf_any (w : World) (x : Hit) :
    Calls Tryz.prog 144 #[.agg #[.int .i64 x.asid, .int .i64 x.page, .int .i64 x.frame, .bool x.r.w, .bool x.r.u, .bool x.r.x, .bool x.dirty]] w
      fun e w' => e = .returned (.agg #[.int .i64 x.asid, .int .i64 x.page]) ∧ Below w.heap.size w w' := by
  obtain ⟨a, p, f, ⟨rw', ru, rx⟩, d⟩ := x
  dsimp only
  go_enter Tryz.func144, Tryz.ntmps144
  go_wp2
  refine bodyPost_ret (v := .agg #[.int .i64 a, .int .i64 p]) (by simp [results, Tryz.results144, go_sem]) rfl ⟨rfl, ?_⟩
  go_grown
set_option maxRecDepth 100000 in
set_option maxHeartbeats 1000000 in
theorem atp_any (w : World) (kb : Nat) (x : Hit) (asid page : Int) (hk : Blk w kb 167 [.int .i64 asid, .int .i64 page]) :
    Calls Tryz.prog 143 #[.agg #[.int .i64 x.asid, .int .i64 x.page, .int .i64 x.frame, .bool x.r.w, .bool x.r.u, .bool x.r.x, .bool x.dirty], .pointer (some ⟨kb, 0, none⟩)] w
      fun e w' => e = .returned (.bool (ofKey asid page x)) ∧ Below w.heap.size w w' := by
  have hof := fun W => keyOf_any W x
  obtain ⟨a, p, f, ⟨rw', ru, rx⟩, d⟩ := x
  unfold ofKey
  dsimp only at hof ⊢
  have b0 := bal w (.cells #[.int .i64 a, .int .i64 p, .int .i64 f, .bool rw', .bool ru, .bool rx, .bool d] 49)
  have hx := Blk.new w 49 [.int .i64 a, .int .i64 p, .int .i64 f, .bool rw', .bool ru, .bool rx, .bool d]
  have hk' := hk.past b0
  obtain ⟨w0, hw0⟩ : ∃ w0, w.alloc (.cells #[.int .i64 a, .int .i64 p, .int .i64 f, .bool rw', .bool ru, .bool rx, .bool d] 49) = w0 := ⟨_, rfl⟩
  obtain ⟨xb, hxb⟩ : ∃ xb, w.heap.size = xb := ⟨_, rfl⟩
  have hxe : w0.heap.size = w0.heap.size := rfl
  rw [show (w.alloc (.cells [Value.int .i64 a, .int .i64 p, .int .i64 f, .bool rw', .bool ru, .bool rx, .bool d].toArray 49)) = w0 from hw0] at hx
  rw [hw0] at b0 hk'
  have HOf := Lib.hid hof
  have HW := Lib.hid hw0
  have HK := Lib.hid hk'
  have HX := Lib.hid hx
  have HXB := Lib.hid hxb
  clear hof hw0 hk hk' hx hxe hxb
  have u1 := Tryz.underlying167
  have hp1 : Tryz.prog.stoodInHeld 167 = false := by kernel_rfl
  have hg1 : Tryz.prog.eqGuardType Tryz.prog.depth 167 = false := by kernel_rfl
  go_enter Tryz.func143, Tryz.ntmps143
  go_wp2_with fail
  rw [HW.out, HXB.out]
  rw [HXB.out] at HX
  have x0 := HX.out.cell (k := 0) rfl
  have x1 := HX.out.cell (k := 1) rfl
  have x2 := HX.out.cell (k := 2) rfl
  have x3 := HX.out.cell (k := 3) rfl
  have x4 := HX.out.cell (k := 4) rfl
  have x5 := HX.out.cell (k := 5) rfl
  have x6 := HX.out.cell (k := 6) rfl
  have k0 := HK.out.cell (k := 0) rfl
  have k1 := HK.out.cell (k := 1) rfl
  by_cases e1 : a = asid
  · subst e1
    by_cases e2 : p = page
    · subst e2
      go_region_held3 (fun w' => w'.cell? ⟨xb, 0, none⟩ = some (.int .i64 a) ∧ w'.cell? ⟨xb, 1, none⟩ = some (.int .i64 p) ∧ w'.cell? ⟨xb, 2, none⟩ = some (.int .i64 f) ∧ w'.cell? ⟨xb, 3, none⟩ = some (.bool rw') ∧ w'.cell? ⟨xb, 4, none⟩ = some (.bool ru) ∧ w'.cell? ⟨xb, 5, none⟩ = some (.bool rx) ∧ w'.cell? ⟨xb, 6, none⟩ = some (.bool d) ∧ w'.cell? ⟨kb, 0, none⟩ = some (.int .i64 a) ∧ w'.cell? ⟨kb, 1, none⟩ = some (.int .i64 p)) (go_keep) (first
        | (go_at_call 144; (with_reducible refine (HOf.out _).mono ?_); rintro e W1 ⟨rfl, b1⟩; have q1 := (below_of_drewN w0 1).trans b1; have HX1 := HX.out.past q1; have HK1 := HK.out.past q1; have y0 := HX1.cell (k := 0) rfl; have y1 := HX1.cell (k := 1) rfl; have y2 := HX1.cell (k := 2) rfl; have y3 := HX1.cell (k := 3) rfl; have y4 := HX1.cell (k := 4) rfl; have y5 := HX1.cell (k := 5) rfl; have y6 := HX1.cell (k := 6) rfl; have z0 := HK1.cell (k := 0) rfl; have z1 := HK1.cell (k := 1) rfl))
      all_goals go_wp2
      all_goals go_ret
      all_goals exact ⟨by simp [*], b0.trans (q1.mono b0.size)⟩
    · have f2 : (p == page) = false := beq_eq_false_iff_ne.2 e2
      have f2' : decide (p = page) = false := decide_eq_false e2
      go_region_held3 (fun w' => w'.cell? ⟨xb, 0, none⟩ = some (.int .i64 a) ∧ w'.cell? ⟨xb, 1, none⟩ = some (.int .i64 p) ∧ w'.cell? ⟨xb, 2, none⟩ = some (.int .i64 f) ∧ w'.cell? ⟨xb, 3, none⟩ = some (.bool rw') ∧ w'.cell? ⟨xb, 4, none⟩ = some (.bool ru) ∧ w'.cell? ⟨xb, 5, none⟩ = some (.bool rx) ∧ w'.cell? ⟨xb, 6, none⟩ = some (.bool d) ∧ w'.cell? ⟨kb, 0, none⟩ = some (.int .i64 a) ∧ w'.cell? ⟨kb, 1, none⟩ = some (.int .i64 page)) (go_keep) (first
        | (go_at_call 144; (with_reducible refine (HOf.out _).mono ?_); rintro e W1 ⟨rfl, b1⟩; have q1 := (below_of_drewN w0 1).trans b1; have HX1 := HX.out.past q1; have HK1 := HK.out.past q1; have y0 := HX1.cell (k := 0) rfl; have y1 := HX1.cell (k := 1) rfl; have y2 := HX1.cell (k := 2) rfl; have y3 := HX1.cell (k := 3) rfl; have y4 := HX1.cell (k := 4) rfl; have y5 := HX1.cell (k := 5) rfl; have y6 := HX1.cell (k := 6) rfl; have z0 := HK1.cell (k := 0) rfl; have z1 := HK1.cell (k := 1) rfl))
      all_goals go_wp2
      all_goals go_ret
      all_goals exact ⟨by simp [*], b0.trans (q1.mono b0.size)⟩
  · have f1 : (a == asid) = false := beq_eq_false_iff_ne.2 e1
    have f1' : decide (a = asid) = false := decide_eq_false e1
    go_region_held3 (fun w' => w'.cell? ⟨xb, 0, none⟩ = some (.int .i64 a) ∧ w'.cell? ⟨xb, 1, none⟩ = some (.int .i64 p) ∧ w'.cell? ⟨xb, 2, none⟩ = some (.int .i64 f) ∧ w'.cell? ⟨xb, 3, none⟩ = some (.bool rw') ∧ w'.cell? ⟨xb, 4, none⟩ = some (.bool ru) ∧ w'.cell? ⟨xb, 5, none⟩ = some (.bool rx) ∧ w'.cell? ⟨xb, 6, none⟩ = some (.bool d) ∧ w'.cell? ⟨kb, 0, none⟩ = some (.int .i64 asid) ∧ w'.cell? ⟨kb, 1, none⟩ = some (.int .i64 page)) (go_keep) (first
      | (go_at_call 144; (with_reducible refine (HOf.out _).mono ?_); rintro e W1 ⟨rfl, b1⟩; have q1 := (below_of_drewN w0 1).trans b1; have HX1 := HX.out.past q1; have HK1 := HK.out.past q1; have y0 := HX1.cell (k := 0) rfl; have y1 := HX1.cell (k := 1) rfl; have y2 := HX1.cell (k := 2) rfl; have y3 := HX1.cell (k := 3) rfl; have y4 := HX1.cell (k := 4) rfl; have y5 := HX1.cell (k := 5) rfl; have y6 := HX1.cell (k := 6) rfl; have z0 := HK1.cell (k := 0) rfl; have z1 := HK1.cell (k := 1) rfl))
    all_goals go_wp2
    all_goals go_ret
    all_goals exact ⟨by simp [*], b0.trans (q1.mono b0.size)⟩
end Go.Proofs.YtgaififhhffpfaaGreatDoor
