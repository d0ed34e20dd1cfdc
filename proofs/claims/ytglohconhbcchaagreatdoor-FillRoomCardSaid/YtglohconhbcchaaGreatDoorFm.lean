/- The host's machine's walk: mmu.Mmu.Walk is mwalk. -/
import Derived.Test.YtglohconhbcchaaGreatDoorFk
import Derived.Test.YtglohconhbcchaaGreatDoorLastT
import Derived.Test.YtglohconhbcchaaGreatDoorGf
namespace Go.Proofs.YtglohconhbcchaaGreatDoor
open Go.RowKit Go.Shelf Go.Maps

set_option linter.unusedSimpArgs false
set_option linter.unusedVariables false

section
variable {n : Nat} {mem : List Nat} {page f : Int} {lv : Nat} {may : Rt} {v : Nat}
theorem mwalk_none (h : mget n mem f (ix page ((lv + 1 : Nat) : Int)) = none) : mwalk n mem page (lv + 1) f may = none := by rw [mwalk, h]
theorem mwalk_off (h : mget n mem f (ix page ((lv + 1 : Nat) : Int)) = some v) (hp : (pte v).p = false) : mwalk n mem page (lv + 1) f may = none := by rw [mwalk, h]; simp [hp]
theorem mwalk_on (h : mget n mem f (ix page ((lv + 1 : Nat) : Int)) = some v) (hp : (pte v).p = true) : mwalk n mem page (lv + 1) f may = mwalk n mem page lv (pte v).f (may.meet (rtOf (pte v))) := by rw [mwalk, h]; simp [hp]
end
theorem mget_lt {n : Nat} {mem : List Nat} (hb : ∀ v, v ∈ mem → v < 2 ^ 64) (f i : Int) : (mget n mem f i).getD 0 < 2 ^ 64 := by
  unfold mget
  split
  · cases h : mem[f.toNat * 8 + i.toNat]? with
    | none => simp
    | some v => exact hb v (List.mem_of_getElem? h)
  · simp
set_option maxRecDepth 100000 in
set_option maxHeartbeats 4000000 in
theorem mwalk_any (w : World) (mp tp fp fb n : Nat) (mem : List Nat) (hmp : Blk w mp 119 [.pointer (some ⟨tp, 0, none⟩), .pointer (some ⟨fp, 0, none⟩)]) (H : Host w fp fb n mem) (root page : Int) (o : Option (Int × Rt)) (hJ : mwalk n mem page 3 root Rt.all = o) :
    Calls Tryz.prog 18 #[.pointer (some ⟨mp, 0, none⟩), .int .i64 root, .int .i64 page] w
      fun e w' => e = .returned (.tuple #[.int .i64 ((o.map Prod.fst).getD 0), .agg #[.bool ((o.map Prod.snd).getD ⟨false, false, false⟩).w, .bool ((o.map Prod.snd).getD ⟨false, false, false⟩).u, .bool ((o.map Prod.snd).getD ⟨false, false, false⟩).x], .bool o.isSome]) ∧ Below w.heap.size w w' := by
  have hho := fun W (hW : Below w.heap.size w W) => H.past hW
  have hbm := fun W (hW : Below w.heap.size w W) => hmp.past hW
  have hbd := H.bd
  have HHo := Lib.hid hho
  have HMp := Lib.hid hbm
  have HBd := Lib.hid hbd
  have hB0 := bal w (.cells #[.bool false, .bool false, .bool false] 48)
  have hR0 := Blk.new w 48 [.bool false, .bool false, .bool false]
  obtain ⟨rb, hrb⟩ : ∃ x, w.heap.size = x := ⟨_, rfl⟩
  have hlr : w.heap.size ≤ rb := Nat.le_of_eq hrb
  obtain ⟨w1, hw1⟩ : ∃ W', w.alloc (.cells #[.bool false, .bool false, .bool false] 48) = W' := ⟨_, rfl⟩
  rw [show (w.alloc (.cells ([.bool false, .bool false, .bool false] : List Value).toArray 48)) = w1 from hw1, hrb] at hR0
  rw [hw1] at hB0
  have HW1 := Lib.hid hw1
  have HRb0 := Lib.hid hrb
  have HR0 := Lib.hid hR0
  have HB0 := Lib.hid hB0
  have HLr0 := Lib.hid hlr
  have HJ0 := Lib.hid hJ
  clear hho hbm hbd H hmp hw1 hrb hR0 hB0 hlr hJ
  go_enter Tryz.func18, Tryz.ntmps18
  go_wp2_with fail
  rw [HW1.out, HRb0.out]
  refine wp_scope_jumps 0 (fun a' w' => ∃ (lv at' : Int) (mw mu mx : Bool) (rb mb : Nat) (u3 u4 u5 u12 u13 u14 u15 u16 u17 u18 u19 u20 u21 u22 u23 u24 u25 u26 u27 u28 u29 u30 u31 u32 u33 u34 u35 u36 u37 u38 u39 u40 u41 u42 u43 u44 u45 u46 u47 u48 u49 : Value), (lv = 1 ∨ lv = 2) ∧ a' = { tmps := #[.pointer (some ⟨mp, 0, none⟩), .int .i64 root, .int .i64 page, u3, u4, u5, .int .i64 0, .pointer (some ⟨rb, 0, none⟩), .bool false, .int .i64 lv, .int .i64 at', .pointer (some ⟨mb, 0, none⟩), u12, u13, u14, u15, u16, u17, u18, u19, u20, u21, u22, u23, u24, u25, u26, u27, u28, u29, u30, u31, u32, u33, u34, u35, u36, u37, u38, u39, u40, u41, u42, u43, u44, u45, u46, u47, u48, u49], defers := [] } ∧ Blk w' rb 48 [.bool false, .bool false, .bool false] ∧ Blk w' mb 48 [.bool mw, .bool mu, .bool mx] ∧ rb ≠ mb ∧ Below w.heap.size w w' ∧ w.heap.size ≤ rb ∧ w.heap.size ≤ mb ∧ mwalk n mem page lv.toNat at' ⟨mw, mu, mx⟩ = o) (fun a' _ => (intOf (a'.tmps.getD 9 undef)).toNat) rfl ?_ ?_
  · go_wp2_with (first
      | (go_at_call 59; (with_reducible refine (all_any _).mono ?_); rintro e Wa ⟨rfl, ba⟩))
    have hlm0 : rb < Wa.heap.size := Nat.lt_of_lt_of_le HR0.out.lt ba.size
    have hB1 := ba.trans ((bal Wa (.cells #[.bool true, .bool true, .bool true] 48)).mono ba.size)
    have hM := Blk.new Wa 48 [.bool true, .bool true, .bool true]
    obtain ⟨mb, hmb⟩ : ∃ x, Wa.heap.size = x := ⟨_, rfl⟩
    obtain ⟨wr, hwr⟩ : ∃ W', Wa.alloc (.cells #[.bool true, .bool true, .bool true] 48) = W' := ⟨_, rfl⟩
    rw [show (Wa.alloc (.cells ([.bool true, .bool true, .bool true] : List Value).toArray 48)) = wr from hwr, hmb] at hM
    rw [hwr] at hB1
    rw [hmb] at hlm0
    rw [hwr, hmb]
    have hR := HR0.out.past hB1
    have hB := HB0.out.trans (hB1.mono HB0.out.size)
    have hne : rb ≠ mb := by omega
    have hlr := HLr0.out
    have hlm : w.heap.size ≤ mb := by omega
    have hJ : mwalk n mem page 3 root ⟨true, true, true⟩ = o := HJ0.out
    clear hwr hmb hB1 ba hlm0 HR0 HB0 HLr0 HJ0 HW1 HRb0
    go_step3
    have M1 := HMp.out wr hB
    have m1 := M1.cell (k := 1) rfl
    have ml := M1.lt
    obtain ⟨ov, hov⟩ : ∃ x, mget n mem root (ix page 3) = x := ⟨_, rfl⟩
    have hge := fun W (hW : Below wr.heap.size wr W) => fget_any W fp fb n mem (HHo.out W (hB.trans (hW.mono hB.size))) root (ix page 3)
    rw [hov] at hge
    have hvl : ov.getD 0 < 2 ^ 64 := by rw [← hov]; exact mget_lt HBd.out _ _
    have hno : ov = none → o = none := fun e => by rw [← hJ]; exact mwalk_none (lv := 2) (by rw [e] at hov; exact hov)
    have hof : ∀ v, ov = some v → (pte v).p = false → o = none := fun v e hp => by rw [← hJ]; exact mwalk_off (lv := 2) (by rw [e] at hov; exact hov) hp
    have hon : ∀ v, ov = some v → (pte v).p = true → mwalk n mem page 2 (pte v).f (Rt.meet ⟨true, true, true⟩ (rtOf (pte v))) = o := fun v e hp => by rw [← hJ]; exact (mwalk_on (lv := 2) (by rw [e] at hov; exact hov) hp).symm
    have hos : ov.isSome = true → ov = some (ov.getD 0) := fun h => by cases ov <;> first | rfl | simp at h
    obtain ⟨vs, hvs⟩ : ∃ x, ov.isSome = x := ⟨_, rfl⟩
    obtain ⟨v, hv⟩ : ∃ x, ov.getD 0 = x := ⟨_, rfl⟩
    have hns : vs = false → ov = none := fun h => by rw [← hvs] at h; cases ov <;> first | rfl | simp at h
    rw [hv] at hge hvl hos
    rw [hvs] at hge hos
    have hpg := fun W => pget_any W v hvl
    obtain ⟨⟨ep, ew, eu, ea, ed, es, enx, eb, ef⟩, he⟩ : ∃ x, pte v = x := ⟨_, rfl⟩
    rw [he] at hpg
    dsimp only [Pte.val] at hpg
    have hofr := fun W => of_any W ⟨ep, ew, eu, ea, ed, es, enx, eb, ef⟩
    dsimp only [Pte.val, rtOf, Rt.val] at hofr
    have hNo : vs = false ∨ ep = false → o = none := fun h => by
      cases vs with
      | false => exact hno (hns rfl)
      | true => exact hof v (hos rfl) (by rw [he]; exact h.resolve_left (by simp))
    have hOn : vs = true → ep = true → mwalk n mem page 2 (ef : Int) (Rt.meet ⟨true, true, true⟩ ⟨ew, eu, !enx⟩) = o := fun h1 h2 => by
      have := hon v (hos h1) (by rw [he]; exact h2)
      rw [he] at this
      exact this
    have HGe := Lib.hid hge
    have HPg := Lib.hid hpg
    have HOf := Lib.hid hofr
    have HNo := Lib.hid hNo
    have HOn := Lib.hid hOn
    have HRb := Lib.hid hR
    have HMb := Lib.hid hM
    have HBw := Lib.hid hB
    have HNe := Lib.hid hne
    have HLr := Lib.hid hlr
    have HLm := Lib.hid hlm
    clear hge hpg hofr hNo hOn hno hof hon hos hns hov hvs hv he hJ M1 hR hM hvl hlr hlm hne hB
    go_wp2_with fail
    go_region_held3 (fun w' => w'.cell? ⟨mp, 1, none⟩ = some (.pointer (some ⟨fp, 0, none⟩))) (go_keep) (first
      | (go_at_call 61; (with_reducible refine (idx_any page 3 _).mono ?_); rintro e W2 ⟨rfl, q2, rfl⟩)
      | (go_at_call 60; (with_reducible refine (HGe.out _ (below_of_drewN wr _)).mono ?_); rintro e W3 ⟨rfl, rfl⟩; have b2 := below_of_drewN wr (1 + q2)))
    all_goals
      go_upto_region 4 with (first
        | (go_at_call 62; (with_reducible refine (HPg.out _).mono ?_); rintro e W4 ⟨rfl, b4⟩))
      have B4 := b2.trans (b4.mono b2.size)
      have B5 := B4.trans ((bal W4 (.cells #[.bool ep, .bool ew, .bool eu, .bool ea, .bool ed, .bool es, .bool enx, .bool eb, .int .i64 (ef : Int)] 134)).mono B4.size)
      have PB := Blk.new W4 134 [.bool ep, .bool ew, .bool eu, .bool ea, .bool ed, .bool es, .bool enx, .bool eb, .int .i64 (ef : Int)]
      have hpw : wr.heap.size ≤ W4.heap.size := B4.size
      obtain ⟨pb, hpb⟩ : ∃ x, W4.heap.size = x := ⟨_, rfl⟩
      obtain ⟨W5, hW5⟩ : ∃ W', W4.alloc (.cells #[.bool ep, .bool ew, .bool eu, .bool ea, .bool ed, .bool es, .bool enx, .bool eb, .int .i64 (ef : Int)] 134) = W' := ⟨_, rfl⟩
      rw [show (W4.alloc (.cells ([.bool ep, .bool ew, .bool eu, .bool ea, .bool ed, .bool es, .bool enx, .bool eb, .int .i64 (ef : Int)] : List Value).toArray 134)) = W5 from hW5, hpb] at PB
      rw [hW5] at B5
      rw [hpb] at hpw
      rw [hW5, hpb]
      clear hW5 hpb b4 b2 B4 m1 ml
      have RB := HRb.out.past B5
      have MB := HMb.out.past B5
      have BB := HBw.out.trans (B5.mono HBw.out.size)
      have r0 := RB.cell (k := 0) rfl
      have r1 := RB.cell (k := 1) rfl
      have r2 := RB.cell (k := 2) rfl
      have rf := fun k => RB.free k
      have rl := RB.lt
      have p0 := PB.cell (k := 0) rfl
      have pl := PB.lt
      have nrm := HNe.out
      have nmp : mb ≠ pb := by have := HMb.out.lt; omega
      have nrp : rb ≠ pb := by have := HRb.out.lt; omega
      have HRB := Lib.hid RB
      have HMB := Lib.hid MB
      have HPB := Lib.hid PB
      have HBB := Lib.hid BB
      clear RB MB PB BB B5 HRb HMb HBw HGe HPg HNe
      by_cases hc : vs = true ∧ ep = true
      · obtain ⟨rfl, rfl⟩ := hc
        have hOn := HOn.out rfl rfl
        have HOn' := Lib.hid hOn
        clear hOn HNo HOn
        go_wp2_with fail
        have z0 := HMB.out.cell (k := 0) rfl
        have z1 := HMB.out.cell (k := 1) rfl
        have z2 := HMB.out.cell (k := 2) rfl
        have zl := HMB.out.lt
        have p1 := HPB.out.cell (k := 1) rfl
        have p2 := HPB.out.cell (k := 2) rfl
        have p3 := HPB.out.cell (k := 3) rfl
        have p4 := HPB.out.cell (k := 4) rfl
        have p5 := HPB.out.cell (k := 5) rfl
        have p6 := HPB.out.cell (k := 6) rfl
        have p7 := HPB.out.cell (k := 7) rfl
        have p8 := HPB.out.cell (k := 8) rfl
        clear r0 r1 r2 rf rl
        refine wp_region_last (fun w' => w'.cell? ⟨mb, 0, none⟩ = some (.bool true) ∧ w'.cell? ⟨mb, 1, none⟩ = some (.bool true) ∧ w'.cell? ⟨mb, 2, none⟩ = some (.bool true) ∧ w'.cell? ⟨pb, 0, none⟩ = some (.bool true) ∧ w'.cell? ⟨pb, 1, none⟩ = some (.bool ew) ∧ w'.cell? ⟨pb, 2, none⟩ = some (.bool eu) ∧ w'.cell? ⟨pb, 3, none⟩ = some (.bool ea) ∧ w'.cell? ⟨pb, 4, none⟩ = some (.bool ed) ∧ w'.cell? ⟨pb, 5, none⟩ = some (.bool es) ∧ w'.cell? ⟨pb, 6, none⟩ = some (.bool enx) ∧ w'.cell? ⟨pb, 7, none⟩ = some (.bool eb) ∧ w'.cell? ⟨pb, 8, none⟩ = some (.int .i64 (ef : Int))) 5 (by kernel_rfl) (by (try dsimp only); go_keep) (fun hHeld => ?_)
        refine' wpAnyT_take (i := 0) (v := _) rfl (by kernel_rfl) (by kernel_rfl) (by kernel_rfl) (by kernel_rfl) (by kernel_rfl) (fun _ _ _ h => h) (Or.inl ⟨by with_unfolding_all rfl, ?_⟩) (by assumption) ?_
        rotate_left
        focus (intro w hSw; (try dsimp only at hSw); go_simp; try (with_reducible rfl))
        try simp only [List.getElem_toArray, List.getElem_cons_zero, Act.put, List.setIfInBounds_toArray, List.set_cons_zero, List.set_cons_succ]
        refine' wpAnyT_take (i := 1) (v := _) rfl (by kernel_rfl) (by kernel_rfl) (by kernel_rfl) (by kernel_rfl) (by kernel_rfl) (fun _ _ _ h => h) (Or.inl ⟨by with_unfolding_all rfl, ?_⟩) (by assumption) ?_
        rotate_left
        focus (intro w hSw; (try dsimp only at hSw); go_simp; try (with_reducible rfl))
        try simp only [List.getElem_toArray, List.getElem_cons_zero, List.getElem_cons_succ, Act.put, List.setIfInBounds_toArray, List.set_cons_zero, List.set_cons_succ]
        refine wpAnyL_one (i := 2) (by kernel_rfl) rfl (fun K hK => ?_)
        rw [if_pos (by with_unfolding_all rfl)]
        go_simp
        (go_at_call 64; (with_reducible refine (HOf.out _).mono ?_); rintro e W6 ⟨rfl, b6⟩; have q6 := (Below.refl W5.heap.size W5).drew.trans b6; have MB6 := HMB.out.past q6; have y0 := MB6.cell (k := 0) rfl; have y1 := MB6.cell (k := 1) rfl; have y2 := MB6.cell (k := 2) rfl; have yl := MB6.lt; have PB6 := HPB.out.past q6; have w0 := PB6.cell (k := 0) rfl; have w1 := PB6.cell (k := 1) rfl; have w2 := PB6.cell (k := 2) rfl; have w3 := PB6.cell (k := 3) rfl; have w4 := PB6.cell (k := 4) rfl; have w5 := PB6.cell (k := 5) rfl; have w6 := PB6.cell (k := 6) rfl; have w7 := PB6.cell (k := 7) rfl; have w8 := PB6.cell (k := 8) rfl; have wl := PB6.lt)
        refine hK.out _ _ (fun _ => (by (try dsimp only); go_keep)) (fun hHeld => ?_)
        replace hHeld := hHeld (by decide)
        clear hK K
        try simp only [List.getElem_toArray, List.getElem_cons_zero, List.getElem_cons_succ, Act.put, List.setIfInBounds_toArray, List.set_cons_zero, List.set_cons_succ]
        refine wpAnyL_one (i := 3) (by kernel_rfl) rfl (fun K hK => ?_)
        rw [if_pos (by with_unfolding_all rfl)]
        go_simp
        refine hK.out _ _ (fun _ => (by (try dsimp only); go_keep)) (fun hHeld => ?_)
        replace hHeld := hHeld (by decide)
        clear hK K
        try simp only [List.getElem_toArray, List.getElem_cons_zero, List.getElem_cons_succ, Act.put, List.setIfInBounds_toArray, List.set_cons_zero, List.set_cons_succ]
        refine wpAnyL_one (i := 4) (by kernel_rfl) rfl (fun K hK => ?_)
        rw [if_pos (by with_unfolding_all rfl)]
        go_simp
        (go_at_call 63; (with_reducible refine (meet2_any _ _ _ ⟨true, true, true⟩ ⟨ew, eu, !enx⟩ (Blk.new W6 _ [.bool true, .bool true, .bool true, .bool ew, .bool eu, .bool (!enx)])).mono ?_); rintro e W7 ⟨rfl, b7⟩; have q7 := q6.trans (((bal W6 (.cells #[.bool true, .bool true, .bool true, .bool ew, .bool eu, .bool (!enx)] 48)).trans (b7.mono (by simp))).mono q6.size); have MB7 := HMB.out.past q7; have x0 := MB7.cell (k := 0) rfl; have x1 := MB7.cell (k := 1) rfl; have x2 := MB7.cell (k := 2) rfl; have xf := fun k => MB7.free k; have xl := MB7.lt; have PB7 := HPB.out.past q7; have v0 := PB7.cell (k := 0) rfl; have v1 := PB7.cell (k := 1) rfl; have v2 := PB7.cell (k := 2) rfl; have v3 := PB7.cell (k := 3) rfl; have v4 := PB7.cell (k := 4) rfl; have v5 := PB7.cell (k := 5) rfl; have v6 := PB7.cell (k := 6) rfl; have v7 := PB7.cell (k := 7) rfl; have v8 := PB7.cell (k := 8) rfl; have vl := PB7.lt)
        refine hK.out _ _ (fun _ => (by (try dsimp only); go_keep)) (fun hHeld => ?_)
        replace hHeld := hHeld (by decide)
        clear hK K
        try simp only [List.getElem_toArray, List.getElem_cons_zero, List.getElem_cons_succ, Act.put, List.setIfInBounds_toArray, List.set_cons_zero, List.set_cons_succ]
        refine wpAnyL_one (i := 5) (by kernel_rfl) rfl (fun K hK => ?_)
        rw [if_pos (by with_unfolding_all rfl)]
        go_simp
        refine hK.out _ _ (fun h => absurd rfl h) (fun _ => ?_)
        clear hK K
        refine wpAnyL_done (by kernel_rfl) ?_
        obtain ⟨MB8, Q8⟩ := set3 (.bool (true && ew)) (.bool (true && eu)) (.bool (true && !enx)) MB7 (HBB.out.trans (q7.mono HBB.out.size)) HLm.out
        have PB8 := ((PB7.other (a := ⟨mb, 0, none⟩) (Ne.symm nmp) (.bool (true && ew))).other (a := ⟨mb, 1, none⟩) (Ne.symm nmp) (.bool (true && eu))).other (a := ⟨mb, 2, none⟩) (Ne.symm nmp) (.bool (true && !enx))
        have RB8 := (((HRB.out.past q7).other (a := ⟨mb, 0, none⟩) nrm (.bool (true && ew))).other (a := ⟨mb, 1, none⟩) nrm (.bool (true && eu))).other (a := ⟨mb, 2, none⟩) nrm (.bool (true && !enx))
        try simp only [Bool.true_and] at MB8 Q8 PB8 RB8
        obtain ⟨W8, hW8⟩ : ∃ W', ((W7.setCell ⟨mb, 0, none⟩ (.bool (ew))).setCell ⟨mb, 1, none⟩ (.bool (eu))).setCell ⟨mb, 2, none⟩ (.bool (!enx)) = W' := ⟨_, rfl⟩
        rw [hW8] at MB8 Q8 PB8 RB8
        try simp only [Bool.true_and]
        rw [hW8]
        clear hW8 q6 q7 b6 b7 MB6 MB7 PB6 PB7 y0 y1 y2 yl x0 x1 x2 xf xl w0 w1 w2 w3 w4 w5 w6 w7 w8 wl v0 v1 v2 v3 v4 v5 v6 v7 v8 vl hHeld p0 p1 p2 p3 p4 p5 p6 p7 p8 pl z0 z1 z2 zl
        have p8 := PB8.cell (k := 8) rfl
        have pl := PB8.lt
        have HMB8 := Lib.hid MB8
        have HRB8 := Lib.hid RB8
        have HQ8 := Lib.hid Q8
        clear MB8 RB8 Q8 PB8
        go_wp2_with fail
        go_step3
        refine ⟨rfl, 2, ((ef : Nat) : Int), ew, eu, (!enx), rb, mb, _, _, _, _, _, _, _, _, _, _, _, _, _, _, _, _, _, _, _, _, _, _, _, _, _, _, _, _, _, _, _, _, _, _, _, _, _, _, _, _, _, by decide, rfl, HRB8.out, HMB8.out, nrm, HQ8.out, HLr.out, HLm.out, by have := HOn'.out; simpa [Rt.meet] using this⟩
      · have hx : o = none := HNo.out (by cases vs <;> cases ep <;> simp_all)
        have hx' : vs = false ∨ (vs = true ∧ ep = false) := by cases vs <;> cases ep <;> simp_all
        subst hx
        clear HNo HOn hc
        rcases hx' with rfl | ⟨rfl, rfl⟩
        all_goals
          go_wp2_with fail
          try simp only [Exit.jump]
          obtain ⟨R, BB⟩ := set3 (.bool false) (.bool false) (.bool false) HRB.out HBB.out HLr.out
          have e0 := R.cell (k := 0) rfl
          have e1 := R.cell (k := 1) rfl
          have e2 := R.cell (k := 2) rfl
          refine bodyPost_ret (v := .tuple #[.int .i64 0, .agg #[.bool false, .bool false, .bool false], .bool false]) ?_ rfl ⟨by simp, BB⟩
          clear R BB r0 r1 r2
          simp [results, Tryz.results18, go_sem, e0, e1, e2]
  · rintro a' wr ⟨lv, at', mw, mu, mx, rb, mb, u3, u4, u5, u12, u13, u14, u15, u16, u17, u18, u19, u20, u21, u22, u23, u24, u25, u26, u27, u28, u29, u30, u31, u32, u33, u34, u35, u36, u37, u38, u39, u40, u41, u42, u43, u44, u45, u46, u47, u48, u49, hlv, rfl, hR, hM, hne, hB, hlr, hlm, hJ⟩
    clear HR0 HB0 HLr0 HJ0 HW1 HRb0
    rcases hlv with rfl | rfl
    · replace hJ : mwalk n mem page 1 at' ⟨mw, mu, mx⟩ = o := hJ
      have M1 := HMp.out wr hB
      have m1 := M1.cell (k := 1) rfl
      have ml := M1.lt
      obtain ⟨ov, hov⟩ : ∃ x, mget n mem at' (ix page 1) = x := ⟨_, rfl⟩
      have hge := fun W (hW : Below wr.heap.size wr W) => fget_any W fp fb n mem (HHo.out W (hB.trans (hW.mono hB.size))) at' (ix page 1)
      rw [hov] at hge
      have hvl : ov.getD 0 < 2 ^ 64 := by rw [← hov]; exact mget_lt HBd.out _ _
      have hno : ov = none → o = none := fun e => by rw [← hJ]; exact mwalk_none (lv := 0) (by rw [e] at hov; exact hov)
      have hof : ∀ v, ov = some v → (pte v).p = false → o = none := fun v e hp => by rw [← hJ]; exact mwalk_off (lv := 0) (by rw [e] at hov; exact hov) hp
      have hon : ∀ v, ov = some v → (pte v).p = true → mwalk n mem page 0 (pte v).f (Rt.meet ⟨mw, mu, mx⟩ (rtOf (pte v))) = o := fun v e hp => by rw [← hJ]; exact (mwalk_on (lv := 0) (by rw [e] at hov; exact hov) hp).symm
      have hos : ov.isSome = true → ov = some (ov.getD 0) := fun h => by cases ov <;> first | rfl | simp at h
      obtain ⟨vs, hvs⟩ : ∃ x, ov.isSome = x := ⟨_, rfl⟩
      obtain ⟨v, hv⟩ : ∃ x, ov.getD 0 = x := ⟨_, rfl⟩
      have hns : vs = false → ov = none := fun h => by rw [← hvs] at h; cases ov <;> first | rfl | simp at h
      rw [hv] at hge hvl hos
      rw [hvs] at hge hos
      have hpg := fun W => pget_any W v hvl
      obtain ⟨⟨ep, ew, eu, ea, ed, es, enx, eb, ef⟩, he⟩ : ∃ x, pte v = x := ⟨_, rfl⟩
      rw [he] at hpg
      dsimp only [Pte.val] at hpg
      have hofr := fun W => of_any W ⟨ep, ew, eu, ea, ed, es, enx, eb, ef⟩
      dsimp only [Pte.val, rtOf, Rt.val] at hofr
      have hNo : vs = false ∨ ep = false → o = none := fun h => by
        cases vs with
        | false => exact hno (hns rfl)
        | true => exact hof v (hos rfl) (by rw [he]; exact h.resolve_left (by simp))
      have hOn : vs = true → ep = true → mwalk n mem page 0 (ef : Int) (Rt.meet ⟨mw, mu, mx⟩ ⟨ew, eu, !enx⟩) = o := fun h1 h2 => by
        have := hon v (hos h1) (by rw [he]; exact h2)
        rw [he] at this
        exact this
      have HGe := Lib.hid hge
      have HPg := Lib.hid hpg
      have HOf := Lib.hid hofr
      have HNo := Lib.hid hNo
      have HOn := Lib.hid hOn
      have HRb := Lib.hid hR
      have HMb := Lib.hid hM
      have HBw := Lib.hid hB
      have HNe := Lib.hid hne
      have HLr := Lib.hid hlr
      have HLm := Lib.hid hlm
      clear hge hpg hofr hNo hOn hno hof hon hos hns hov hvs hv he hJ M1 hR hM hvl hlr hlm hne hB
      go_wp2_with fail
      go_region_held3 (fun w' => w'.cell? ⟨mp, 1, none⟩ = some (.pointer (some ⟨fp, 0, none⟩))) (go_keep) (first
        | (go_at_call 61; (with_reducible refine (idx_any page 1 _).mono ?_); rintro e W2 ⟨rfl, q2, rfl⟩)
        | (go_at_call 60; (with_reducible refine (HGe.out _ (below_of_drewN wr _)).mono ?_); rintro e W3 ⟨rfl, rfl⟩; have b2 := below_of_drewN wr (1 + q2)))
      all_goals
        go_upto_region 4 with (first
          | (go_at_call 62; (with_reducible refine (HPg.out _).mono ?_); rintro e W4 ⟨rfl, b4⟩))
        have B4 := b2.trans (b4.mono b2.size)
        have B5 := B4.trans ((bal W4 (.cells #[.bool ep, .bool ew, .bool eu, .bool ea, .bool ed, .bool es, .bool enx, .bool eb, .int .i64 (ef : Int)] 134)).mono B4.size)
        have PB := Blk.new W4 134 [.bool ep, .bool ew, .bool eu, .bool ea, .bool ed, .bool es, .bool enx, .bool eb, .int .i64 (ef : Int)]
        have hpw : wr.heap.size ≤ W4.heap.size := B4.size
        obtain ⟨pb, hpb⟩ : ∃ x, W4.heap.size = x := ⟨_, rfl⟩
        obtain ⟨W5, hW5⟩ : ∃ W', W4.alloc (.cells #[.bool ep, .bool ew, .bool eu, .bool ea, .bool ed, .bool es, .bool enx, .bool eb, .int .i64 (ef : Int)] 134) = W' := ⟨_, rfl⟩
        rw [show (W4.alloc (.cells ([.bool ep, .bool ew, .bool eu, .bool ea, .bool ed, .bool es, .bool enx, .bool eb, .int .i64 (ef : Int)] : List Value).toArray 134)) = W5 from hW5, hpb] at PB
        rw [hW5] at B5
        rw [hpb] at hpw
        rw [hW5, hpb]
        clear hW5 hpb b4 b2 B4 m1 ml
        have RB := HRb.out.past B5
        have MB := HMb.out.past B5
        have BB := HBw.out.trans (B5.mono HBw.out.size)
        have r0 := RB.cell (k := 0) rfl
        have r1 := RB.cell (k := 1) rfl
        have r2 := RB.cell (k := 2) rfl
        have rf := fun k => RB.free k
        have rl := RB.lt
        have p0 := PB.cell (k := 0) rfl
        have pl := PB.lt
        have nrm := HNe.out
        have nmp : mb ≠ pb := by have := HMb.out.lt; omega
        have nrp : rb ≠ pb := by have := HRb.out.lt; omega
        have HRB := Lib.hid RB
        have HMB := Lib.hid MB
        have HPB := Lib.hid PB
        have HBB := Lib.hid BB
        clear RB MB PB BB B5 HRb HMb HBw HGe HPg HNe
        by_cases hc : vs = true ∧ ep = true
        · obtain ⟨rfl, rfl⟩ := hc
          have hOn := HOn.out rfl rfl
          have HOn' := Lib.hid hOn
          clear hOn HNo HOn
          go_wp2_with fail
          have z0 := HMB.out.cell (k := 0) rfl
          have z1 := HMB.out.cell (k := 1) rfl
          have z2 := HMB.out.cell (k := 2) rfl
          have zl := HMB.out.lt
          have p1 := HPB.out.cell (k := 1) rfl
          have p2 := HPB.out.cell (k := 2) rfl
          have p3 := HPB.out.cell (k := 3) rfl
          have p4 := HPB.out.cell (k := 4) rfl
          have p5 := HPB.out.cell (k := 5) rfl
          have p6 := HPB.out.cell (k := 6) rfl
          have p7 := HPB.out.cell (k := 7) rfl
          have p8 := HPB.out.cell (k := 8) rfl
          clear r0 r1 r2 rf rl
          refine wp_region_last (fun w' => w'.cell? ⟨mb, 0, none⟩ = some (.bool mw) ∧ w'.cell? ⟨mb, 1, none⟩ = some (.bool mu) ∧ w'.cell? ⟨mb, 2, none⟩ = some (.bool mx) ∧ w'.cell? ⟨pb, 0, none⟩ = some (.bool true) ∧ w'.cell? ⟨pb, 1, none⟩ = some (.bool ew) ∧ w'.cell? ⟨pb, 2, none⟩ = some (.bool eu) ∧ w'.cell? ⟨pb, 3, none⟩ = some (.bool ea) ∧ w'.cell? ⟨pb, 4, none⟩ = some (.bool ed) ∧ w'.cell? ⟨pb, 5, none⟩ = some (.bool es) ∧ w'.cell? ⟨pb, 6, none⟩ = some (.bool enx) ∧ w'.cell? ⟨pb, 7, none⟩ = some (.bool eb) ∧ w'.cell? ⟨pb, 8, none⟩ = some (.int .i64 (ef : Int))) 5 (by kernel_rfl) (by (try dsimp only); go_keep) (fun hHeld => ?_)
          refine' wpAnyT_take (i := 0) (v := _) rfl (by kernel_rfl) (by kernel_rfl) (by kernel_rfl) (by kernel_rfl) (by kernel_rfl) (fun _ _ _ h => h) (Or.inl ⟨by with_unfolding_all rfl, ?_⟩) (by assumption) ?_
          rotate_left
          focus (intro w hSw; (try dsimp only at hSw); go_simp; try (with_reducible rfl))
          try simp only [List.getElem_toArray, List.getElem_cons_zero, Act.put, List.setIfInBounds_toArray, List.set_cons_zero, List.set_cons_succ]
          refine' wpAnyT_take (i := 1) (v := _) rfl (by kernel_rfl) (by kernel_rfl) (by kernel_rfl) (by kernel_rfl) (by kernel_rfl) (fun _ _ _ h => h) (Or.inl ⟨by with_unfolding_all rfl, ?_⟩) (by assumption) ?_
          rotate_left
          focus (intro w hSw; (try dsimp only at hSw); go_simp; try (with_reducible rfl))
          try simp only [List.getElem_toArray, List.getElem_cons_zero, List.getElem_cons_succ, Act.put, List.setIfInBounds_toArray, List.set_cons_zero, List.set_cons_succ]
          refine wpAnyL_one (i := 2) (by kernel_rfl) rfl (fun K hK => ?_)
          rw [if_pos (by with_unfolding_all rfl)]
          go_simp
          (go_at_call 64; (with_reducible refine (HOf.out _).mono ?_); rintro e W6 ⟨rfl, b6⟩; have q6 := (Below.refl W5.heap.size W5).drew.trans b6; have MB6 := HMB.out.past q6; have y0 := MB6.cell (k := 0) rfl; have y1 := MB6.cell (k := 1) rfl; have y2 := MB6.cell (k := 2) rfl; have yl := MB6.lt; have PB6 := HPB.out.past q6; have w0 := PB6.cell (k := 0) rfl; have w1 := PB6.cell (k := 1) rfl; have w2 := PB6.cell (k := 2) rfl; have w3 := PB6.cell (k := 3) rfl; have w4 := PB6.cell (k := 4) rfl; have w5 := PB6.cell (k := 5) rfl; have w6 := PB6.cell (k := 6) rfl; have w7 := PB6.cell (k := 7) rfl; have w8 := PB6.cell (k := 8) rfl; have wl := PB6.lt)
          refine hK.out _ _ (fun _ => (by (try dsimp only); go_keep)) (fun hHeld => ?_)
          replace hHeld := hHeld (by decide)
          clear hK K
          try simp only [List.getElem_toArray, List.getElem_cons_zero, List.getElem_cons_succ, Act.put, List.setIfInBounds_toArray, List.set_cons_zero, List.set_cons_succ]
          refine wpAnyL_one (i := 3) (by kernel_rfl) rfl (fun K hK => ?_)
          rw [if_pos (by with_unfolding_all rfl)]
          go_simp
          refine hK.out _ _ (fun _ => (by (try dsimp only); go_keep)) (fun hHeld => ?_)
          replace hHeld := hHeld (by decide)
          clear hK K
          try simp only [List.getElem_toArray, List.getElem_cons_zero, List.getElem_cons_succ, Act.put, List.setIfInBounds_toArray, List.set_cons_zero, List.set_cons_succ]
          refine wpAnyL_one (i := 4) (by kernel_rfl) rfl (fun K hK => ?_)
          rw [if_pos (by with_unfolding_all rfl)]
          go_simp
          (go_at_call 63; (with_reducible refine (meet2_any _ _ _ ⟨mw, mu, mx⟩ ⟨ew, eu, !enx⟩ (Blk.new W6 _ [.bool mw, .bool mu, .bool mx, .bool ew, .bool eu, .bool (!enx)])).mono ?_); rintro e W7 ⟨rfl, b7⟩; have q7 := q6.trans (((bal W6 (.cells #[.bool mw, .bool mu, .bool mx, .bool ew, .bool eu, .bool (!enx)] 48)).trans (b7.mono (by simp))).mono q6.size); have MB7 := HMB.out.past q7; have x0 := MB7.cell (k := 0) rfl; have x1 := MB7.cell (k := 1) rfl; have x2 := MB7.cell (k := 2) rfl; have xf := fun k => MB7.free k; have xl := MB7.lt; have PB7 := HPB.out.past q7; have v0 := PB7.cell (k := 0) rfl; have v1 := PB7.cell (k := 1) rfl; have v2 := PB7.cell (k := 2) rfl; have v3 := PB7.cell (k := 3) rfl; have v4 := PB7.cell (k := 4) rfl; have v5 := PB7.cell (k := 5) rfl; have v6 := PB7.cell (k := 6) rfl; have v7 := PB7.cell (k := 7) rfl; have v8 := PB7.cell (k := 8) rfl; have vl := PB7.lt)
          refine hK.out _ _ (fun _ => (by (try dsimp only); go_keep)) (fun hHeld => ?_)
          replace hHeld := hHeld (by decide)
          clear hK K
          try simp only [List.getElem_toArray, List.getElem_cons_zero, List.getElem_cons_succ, Act.put, List.setIfInBounds_toArray, List.set_cons_zero, List.set_cons_succ]
          refine wpAnyL_one (i := 5) (by kernel_rfl) rfl (fun K hK => ?_)
          rw [if_pos (by with_unfolding_all rfl)]
          go_simp
          refine hK.out _ _ (fun h => absurd rfl h) (fun _ => ?_)
          clear hK K
          refine wpAnyL_done (by kernel_rfl) ?_
          obtain ⟨MB8, Q8⟩ := set3 (.bool (mw && ew)) (.bool (mu && eu)) (.bool (mx && !enx)) MB7 (HBB.out.trans (q7.mono HBB.out.size)) HLm.out
          have PB8 := ((PB7.other (a := ⟨mb, 0, none⟩) (Ne.symm nmp) (.bool (mw && ew))).other (a := ⟨mb, 1, none⟩) (Ne.symm nmp) (.bool (mu && eu))).other (a := ⟨mb, 2, none⟩) (Ne.symm nmp) (.bool (mx && !enx))
          have RB8 := (((HRB.out.past q7).other (a := ⟨mb, 0, none⟩) nrm (.bool (mw && ew))).other (a := ⟨mb, 1, none⟩) nrm (.bool (mu && eu))).other (a := ⟨mb, 2, none⟩) nrm (.bool (mx && !enx))
          try simp only [Bool.true_and] at MB8 Q8 PB8 RB8
          obtain ⟨W8, hW8⟩ : ∃ W', ((W7.setCell ⟨mb, 0, none⟩ (.bool (mw && ew))).setCell ⟨mb, 1, none⟩ (.bool (mu && eu))).setCell ⟨mb, 2, none⟩ (.bool (mx && !enx)) = W' := ⟨_, rfl⟩
          rw [hW8] at MB8 Q8 PB8 RB8
          try simp only [Bool.true_and]
          rw [hW8]
          clear hW8 q6 q7 b6 b7 MB6 MB7 PB6 PB7 y0 y1 y2 yl x0 x1 x2 xf xl w0 w1 w2 w3 w4 w5 w6 w7 w8 wl v0 v1 v2 v3 v4 v5 v6 v7 v8 vl hHeld p0 p1 p2 p3 p4 p5 p6 p7 p8 pl z0 z1 z2 zl
          have p8 := PB8.cell (k := 8) rfl
          have pl := PB8.lt
          have m0 := MB8.cell (k := 0) rfl
          have m1 := MB8.cell (k := 1) rfl
          have m2 := MB8.cell (k := 2) rfl
          have ml := MB8.lt
          have r0 := RB8.cell (k := 0) rfl
          have r1 := RB8.cell (k := 1) rfl
          have r2 := RB8.cell (k := 2) rfl
          have rf := fun k => RB8.free k
          have rl := RB8.lt
          have nmr := Ne.symm nrm
          have HRB8 := Lib.hid RB8
          have HQ8 := Lib.hid Q8
          clear MB8 RB8 Q8 PB8
          go_wp2_with fail
          go_region_held3 (fun w' => w'.cell? ⟨mb, 0, none⟩ = some (.bool (mw && ew)) ∧ w'.cell? ⟨mb, 1, none⟩ = some (.bool (mu && eu)) ∧ w'.cell? ⟨mb, 2, none⟩ = some (.bool (mx && !enx))) (go_keep) (fail)
          go_wp2_with fail
          try simp only [Exit.jump]
          have R1 := HRB8.out.set 0 (.bool (mw && ew))
          have s0 := R1.cell (k := 0) rfl
          have R2 := R1.set 1 (.bool (mu && eu))
          have s1 := R2.cell (k := 1) rfl
          have R3 := R2.set 2 (.bool (mx && !enx))
          have s2 := R3.cell (k := 2) rfl
          have BB := (set3 (.bool (mw && ew)) (.bool (mu && eu)) (.bool (mx && !enx)) HRB8.out HQ8.out HLr.out).2.drew
          have hfin := HOn'.out
          refine bodyPost_ret (v := .tuple #[.int .i64 (ef : Int), .agg #[.bool (mw && ew), .bool (mu && eu), .bool (mx && !enx)], .bool true]) ?_ rfl ⟨by rw [← hfin]; simp [mwalk, Rt.meet], BB⟩
          clear R1 R2 R3 BB m0 m1 m2
          simp [results, Tryz.results18, go_sem, s0, s1, s2]
        · have hx : o = none := HNo.out (by cases vs <;> cases ep <;> simp_all)
          have hx' : vs = false ∨ (vs = true ∧ ep = false) := by cases vs <;> cases ep <;> simp_all
          subst hx
          clear HNo HOn hc
          rcases hx' with rfl | ⟨rfl, rfl⟩
          all_goals
            go_wp2_with fail
            try simp only [Exit.jump]
            obtain ⟨R, BB⟩ := set3 (.bool false) (.bool false) (.bool false) HRB.out HBB.out HLr.out
            have e0 := R.cell (k := 0) rfl
            have e1 := R.cell (k := 1) rfl
            have e2 := R.cell (k := 2) rfl
            refine bodyPost_ret (v := .tuple #[.int .i64 0, .agg #[.bool false, .bool false, .bool false], .bool false]) ?_ rfl ⟨by simp, BB⟩
            clear R BB r0 r1 r2
            simp [results, Tryz.results18, go_sem, e0, e1, e2]
    · replace hJ : mwalk n mem page 2 at' ⟨mw, mu, mx⟩ = o := hJ
      have M1 := HMp.out wr hB
      have m1 := M1.cell (k := 1) rfl
      have ml := M1.lt
      obtain ⟨ov, hov⟩ : ∃ x, mget n mem at' (ix page 2) = x := ⟨_, rfl⟩
      have hge := fun W (hW : Below wr.heap.size wr W) => fget_any W fp fb n mem (HHo.out W (hB.trans (hW.mono hB.size))) at' (ix page 2)
      rw [hov] at hge
      have hvl : ov.getD 0 < 2 ^ 64 := by rw [← hov]; exact mget_lt HBd.out _ _
      have hno : ov = none → o = none := fun e => by rw [← hJ]; exact mwalk_none (lv := 1) (by rw [e] at hov; exact hov)
      have hof : ∀ v, ov = some v → (pte v).p = false → o = none := fun v e hp => by rw [← hJ]; exact mwalk_off (lv := 1) (by rw [e] at hov; exact hov) hp
      have hon : ∀ v, ov = some v → (pte v).p = true → mwalk n mem page 1 (pte v).f (Rt.meet ⟨mw, mu, mx⟩ (rtOf (pte v))) = o := fun v e hp => by rw [← hJ]; exact (mwalk_on (lv := 1) (by rw [e] at hov; exact hov) hp).symm
      have hos : ov.isSome = true → ov = some (ov.getD 0) := fun h => by cases ov <;> first | rfl | simp at h
      obtain ⟨vs, hvs⟩ : ∃ x, ov.isSome = x := ⟨_, rfl⟩
      obtain ⟨v, hv⟩ : ∃ x, ov.getD 0 = x := ⟨_, rfl⟩
      have hns : vs = false → ov = none := fun h => by rw [← hvs] at h; cases ov <;> first | rfl | simp at h
      rw [hv] at hge hvl hos
      rw [hvs] at hge hos
      have hpg := fun W => pget_any W v hvl
      obtain ⟨⟨ep, ew, eu, ea, ed, es, enx, eb, ef⟩, he⟩ : ∃ x, pte v = x := ⟨_, rfl⟩
      rw [he] at hpg
      dsimp only [Pte.val] at hpg
      have hofr := fun W => of_any W ⟨ep, ew, eu, ea, ed, es, enx, eb, ef⟩
      dsimp only [Pte.val, rtOf, Rt.val] at hofr
      have hNo : vs = false ∨ ep = false → o = none := fun h => by
        cases vs with
        | false => exact hno (hns rfl)
        | true => exact hof v (hos rfl) (by rw [he]; exact h.resolve_left (by simp))
      have hOn : vs = true → ep = true → mwalk n mem page 1 (ef : Int) (Rt.meet ⟨mw, mu, mx⟩ ⟨ew, eu, !enx⟩) = o := fun h1 h2 => by
        have := hon v (hos h1) (by rw [he]; exact h2)
        rw [he] at this
        exact this
      have HGe := Lib.hid hge
      have HPg := Lib.hid hpg
      have HOf := Lib.hid hofr
      have HNo := Lib.hid hNo
      have HOn := Lib.hid hOn
      have HRb := Lib.hid hR
      have HMb := Lib.hid hM
      have HBw := Lib.hid hB
      have HNe := Lib.hid hne
      have HLr := Lib.hid hlr
      have HLm := Lib.hid hlm
      clear hge hpg hofr hNo hOn hno hof hon hos hns hov hvs hv he hJ M1 hR hM hvl hlr hlm hne hB
      go_wp2_with fail
      go_region_held3 (fun w' => w'.cell? ⟨mp, 1, none⟩ = some (.pointer (some ⟨fp, 0, none⟩))) (go_keep) (first
        | (go_at_call 61; (with_reducible refine (idx_any page 2 _).mono ?_); rintro e W2 ⟨rfl, q2, rfl⟩)
        | (go_at_call 60; (with_reducible refine (HGe.out _ (below_of_drewN wr _)).mono ?_); rintro e W3 ⟨rfl, rfl⟩; have b2 := below_of_drewN wr (1 + q2)))
      all_goals
        go_upto_region 4 with (first
          | (go_at_call 62; (with_reducible refine (HPg.out _).mono ?_); rintro e W4 ⟨rfl, b4⟩))
        have B4 := b2.trans (b4.mono b2.size)
        have B5 := B4.trans ((bal W4 (.cells #[.bool ep, .bool ew, .bool eu, .bool ea, .bool ed, .bool es, .bool enx, .bool eb, .int .i64 (ef : Int)] 134)).mono B4.size)
        have PB := Blk.new W4 134 [.bool ep, .bool ew, .bool eu, .bool ea, .bool ed, .bool es, .bool enx, .bool eb, .int .i64 (ef : Int)]
        have hpw : wr.heap.size ≤ W4.heap.size := B4.size
        obtain ⟨pb, hpb⟩ : ∃ x, W4.heap.size = x := ⟨_, rfl⟩
        obtain ⟨W5, hW5⟩ : ∃ W', W4.alloc (.cells #[.bool ep, .bool ew, .bool eu, .bool ea, .bool ed, .bool es, .bool enx, .bool eb, .int .i64 (ef : Int)] 134) = W' := ⟨_, rfl⟩
        rw [show (W4.alloc (.cells ([.bool ep, .bool ew, .bool eu, .bool ea, .bool ed, .bool es, .bool enx, .bool eb, .int .i64 (ef : Int)] : List Value).toArray 134)) = W5 from hW5, hpb] at PB
        rw [hW5] at B5
        rw [hpb] at hpw
        rw [hW5, hpb]
        clear hW5 hpb b4 b2 B4 m1 ml
        have RB := HRb.out.past B5
        have MB := HMb.out.past B5
        have BB := HBw.out.trans (B5.mono HBw.out.size)
        have r0 := RB.cell (k := 0) rfl
        have r1 := RB.cell (k := 1) rfl
        have r2 := RB.cell (k := 2) rfl
        have rf := fun k => RB.free k
        have rl := RB.lt
        have p0 := PB.cell (k := 0) rfl
        have pl := PB.lt
        have nrm := HNe.out
        have nmp : mb ≠ pb := by have := HMb.out.lt; omega
        have nrp : rb ≠ pb := by have := HRb.out.lt; omega
        have HRB := Lib.hid RB
        have HMB := Lib.hid MB
        have HPB := Lib.hid PB
        have HBB := Lib.hid BB
        clear RB MB PB BB B5 HRb HMb HBw HGe HPg HNe
        by_cases hc : vs = true ∧ ep = true
        · obtain ⟨rfl, rfl⟩ := hc
          have hOn := HOn.out rfl rfl
          have HOn' := Lib.hid hOn
          clear hOn HNo HOn
          go_wp2_with fail
          have z0 := HMB.out.cell (k := 0) rfl
          have z1 := HMB.out.cell (k := 1) rfl
          have z2 := HMB.out.cell (k := 2) rfl
          have zl := HMB.out.lt
          have p1 := HPB.out.cell (k := 1) rfl
          have p2 := HPB.out.cell (k := 2) rfl
          have p3 := HPB.out.cell (k := 3) rfl
          have p4 := HPB.out.cell (k := 4) rfl
          have p5 := HPB.out.cell (k := 5) rfl
          have p6 := HPB.out.cell (k := 6) rfl
          have p7 := HPB.out.cell (k := 7) rfl
          have p8 := HPB.out.cell (k := 8) rfl
          clear r0 r1 r2 rf rl
          refine wp_region_last (fun w' => w'.cell? ⟨mb, 0, none⟩ = some (.bool mw) ∧ w'.cell? ⟨mb, 1, none⟩ = some (.bool mu) ∧ w'.cell? ⟨mb, 2, none⟩ = some (.bool mx) ∧ w'.cell? ⟨pb, 0, none⟩ = some (.bool true) ∧ w'.cell? ⟨pb, 1, none⟩ = some (.bool ew) ∧ w'.cell? ⟨pb, 2, none⟩ = some (.bool eu) ∧ w'.cell? ⟨pb, 3, none⟩ = some (.bool ea) ∧ w'.cell? ⟨pb, 4, none⟩ = some (.bool ed) ∧ w'.cell? ⟨pb, 5, none⟩ = some (.bool es) ∧ w'.cell? ⟨pb, 6, none⟩ = some (.bool enx) ∧ w'.cell? ⟨pb, 7, none⟩ = some (.bool eb) ∧ w'.cell? ⟨pb, 8, none⟩ = some (.int .i64 (ef : Int))) 5 (by kernel_rfl) (by (try dsimp only); go_keep) (fun hHeld => ?_)
          refine' wpAnyT_take (i := 0) (v := _) rfl (by kernel_rfl) (by kernel_rfl) (by kernel_rfl) (by kernel_rfl) (by kernel_rfl) (fun _ _ _ h => h) (Or.inl ⟨by with_unfolding_all rfl, ?_⟩) (by assumption) ?_
          rotate_left
          focus (intro w hSw; (try dsimp only at hSw); go_simp; try (with_reducible rfl))
          try simp only [List.getElem_toArray, List.getElem_cons_zero, Act.put, List.setIfInBounds_toArray, List.set_cons_zero, List.set_cons_succ]
          refine' wpAnyT_take (i := 1) (v := _) rfl (by kernel_rfl) (by kernel_rfl) (by kernel_rfl) (by kernel_rfl) (by kernel_rfl) (fun _ _ _ h => h) (Or.inl ⟨by with_unfolding_all rfl, ?_⟩) (by assumption) ?_
          rotate_left
          focus (intro w hSw; (try dsimp only at hSw); go_simp; try (with_reducible rfl))
          try simp only [List.getElem_toArray, List.getElem_cons_zero, List.getElem_cons_succ, Act.put, List.setIfInBounds_toArray, List.set_cons_zero, List.set_cons_succ]
          refine wpAnyL_one (i := 2) (by kernel_rfl) rfl (fun K hK => ?_)
          rw [if_pos (by with_unfolding_all rfl)]
          go_simp
          (go_at_call 64; (with_reducible refine (HOf.out _).mono ?_); rintro e W6 ⟨rfl, b6⟩; have q6 := (Below.refl W5.heap.size W5).drew.trans b6; have MB6 := HMB.out.past q6; have y0 := MB6.cell (k := 0) rfl; have y1 := MB6.cell (k := 1) rfl; have y2 := MB6.cell (k := 2) rfl; have yl := MB6.lt; have PB6 := HPB.out.past q6; have w0 := PB6.cell (k := 0) rfl; have w1 := PB6.cell (k := 1) rfl; have w2 := PB6.cell (k := 2) rfl; have w3 := PB6.cell (k := 3) rfl; have w4 := PB6.cell (k := 4) rfl; have w5 := PB6.cell (k := 5) rfl; have w6 := PB6.cell (k := 6) rfl; have w7 := PB6.cell (k := 7) rfl; have w8 := PB6.cell (k := 8) rfl; have wl := PB6.lt)
          refine hK.out _ _ (fun _ => (by (try dsimp only); go_keep)) (fun hHeld => ?_)
          replace hHeld := hHeld (by decide)
          clear hK K
          try simp only [List.getElem_toArray, List.getElem_cons_zero, List.getElem_cons_succ, Act.put, List.setIfInBounds_toArray, List.set_cons_zero, List.set_cons_succ]
          refine wpAnyL_one (i := 3) (by kernel_rfl) rfl (fun K hK => ?_)
          rw [if_pos (by with_unfolding_all rfl)]
          go_simp
          refine hK.out _ _ (fun _ => (by (try dsimp only); go_keep)) (fun hHeld => ?_)
          replace hHeld := hHeld (by decide)
          clear hK K
          try simp only [List.getElem_toArray, List.getElem_cons_zero, List.getElem_cons_succ, Act.put, List.setIfInBounds_toArray, List.set_cons_zero, List.set_cons_succ]
          refine wpAnyL_one (i := 4) (by kernel_rfl) rfl (fun K hK => ?_)
          rw [if_pos (by with_unfolding_all rfl)]
          go_simp
          (go_at_call 63; (with_reducible refine (meet2_any _ _ _ ⟨mw, mu, mx⟩ ⟨ew, eu, !enx⟩ (Blk.new W6 _ [.bool mw, .bool mu, .bool mx, .bool ew, .bool eu, .bool (!enx)])).mono ?_); rintro e W7 ⟨rfl, b7⟩; have q7 := q6.trans (((bal W6 (.cells #[.bool mw, .bool mu, .bool mx, .bool ew, .bool eu, .bool (!enx)] 48)).trans (b7.mono (by simp))).mono q6.size); have MB7 := HMB.out.past q7; have x0 := MB7.cell (k := 0) rfl; have x1 := MB7.cell (k := 1) rfl; have x2 := MB7.cell (k := 2) rfl; have xf := fun k => MB7.free k; have xl := MB7.lt; have PB7 := HPB.out.past q7; have v0 := PB7.cell (k := 0) rfl; have v1 := PB7.cell (k := 1) rfl; have v2 := PB7.cell (k := 2) rfl; have v3 := PB7.cell (k := 3) rfl; have v4 := PB7.cell (k := 4) rfl; have v5 := PB7.cell (k := 5) rfl; have v6 := PB7.cell (k := 6) rfl; have v7 := PB7.cell (k := 7) rfl; have v8 := PB7.cell (k := 8) rfl; have vl := PB7.lt)
          refine hK.out _ _ (fun _ => (by (try dsimp only); go_keep)) (fun hHeld => ?_)
          replace hHeld := hHeld (by decide)
          clear hK K
          try simp only [List.getElem_toArray, List.getElem_cons_zero, List.getElem_cons_succ, Act.put, List.setIfInBounds_toArray, List.set_cons_zero, List.set_cons_succ]
          refine wpAnyL_one (i := 5) (by kernel_rfl) rfl (fun K hK => ?_)
          rw [if_pos (by with_unfolding_all rfl)]
          go_simp
          refine hK.out _ _ (fun h => absurd rfl h) (fun _ => ?_)
          clear hK K
          refine wpAnyL_done (by kernel_rfl) ?_
          obtain ⟨MB8, Q8⟩ := set3 (.bool (mw && ew)) (.bool (mu && eu)) (.bool (mx && !enx)) MB7 (HBB.out.trans (q7.mono HBB.out.size)) HLm.out
          have PB8 := ((PB7.other (a := ⟨mb, 0, none⟩) (Ne.symm nmp) (.bool (mw && ew))).other (a := ⟨mb, 1, none⟩) (Ne.symm nmp) (.bool (mu && eu))).other (a := ⟨mb, 2, none⟩) (Ne.symm nmp) (.bool (mx && !enx))
          have RB8 := (((HRB.out.past q7).other (a := ⟨mb, 0, none⟩) nrm (.bool (mw && ew))).other (a := ⟨mb, 1, none⟩) nrm (.bool (mu && eu))).other (a := ⟨mb, 2, none⟩) nrm (.bool (mx && !enx))
          try simp only [Bool.true_and] at MB8 Q8 PB8 RB8
          obtain ⟨W8, hW8⟩ : ∃ W', ((W7.setCell ⟨mb, 0, none⟩ (.bool (mw && ew))).setCell ⟨mb, 1, none⟩ (.bool (mu && eu))).setCell ⟨mb, 2, none⟩ (.bool (mx && !enx)) = W' := ⟨_, rfl⟩
          rw [hW8] at MB8 Q8 PB8 RB8
          try simp only [Bool.true_and]
          rw [hW8]
          clear hW8 q6 q7 b6 b7 MB6 MB7 PB6 PB7 y0 y1 y2 yl x0 x1 x2 xf xl w0 w1 w2 w3 w4 w5 w6 w7 w8 wl v0 v1 v2 v3 v4 v5 v6 v7 v8 vl hHeld p0 p1 p2 p3 p4 p5 p6 p7 p8 pl z0 z1 z2 zl
          have p8 := PB8.cell (k := 8) rfl
          have pl := PB8.lt
          have HMB8 := Lib.hid MB8
          have HRB8 := Lib.hid RB8
          have HQ8 := Lib.hid Q8
          clear MB8 RB8 Q8 PB8
          go_wp2_with fail
          go_step3
          refine ⟨rfl, ⟨1, ((ef : Nat) : Int), (mw && ew), (mu && eu), (mx && !enx), rb, mb, _, _, _, _, _, _, _, _, _, _, _, _, _, _, _, _, _, _, _, _, _, _, _, _, _, _, _, _, _, _, _, _, _, _, _, _, _, _, _, _, _, by decide, rfl, HRB8.out, HMB8.out, nrm, HQ8.out, HLr.out, HLm.out, by have := HOn'.out; simpa [Rt.meet] using this⟩, by simp [intOf]⟩
        · have hx : o = none := HNo.out (by cases vs <;> cases ep <;> simp_all)
          have hx' : vs = false ∨ (vs = true ∧ ep = false) := by cases vs <;> cases ep <;> simp_all
          subst hx
          clear HNo HOn hc
          rcases hx' with rfl | ⟨rfl, rfl⟩
          all_goals
            go_wp2_with fail
            try simp only [Exit.jump]
            obtain ⟨R, BB⟩ := set3 (.bool false) (.bool false) (.bool false) HRB.out HBB.out HLr.out
            have e0 := R.cell (k := 0) rfl
            have e1 := R.cell (k := 1) rfl
            have e2 := R.cell (k := 2) rfl
            refine bodyPost_ret (v := .tuple #[.int .i64 0, .agg #[.bool false, .bool false, .bool false], .bool false]) ?_ rfl ⟨by simp, BB⟩
            clear R BB r0 r1 r2
            simp [results, Tryz.results18, go_sem, e0, e1, e2]
end Go.Proofs.YtglohconhbcchaaGreatDoor
