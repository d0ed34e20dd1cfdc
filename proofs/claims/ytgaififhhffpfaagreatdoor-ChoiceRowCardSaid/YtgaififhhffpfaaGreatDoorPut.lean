/- tlb.Tlb's Put. -/
import Derived.Test.YtgaififhhffpfaaGreatDoorTlb2
namespace Go.Proofs.YtgaififhhffpfaaGreatDoor
open Go.RowKit Go.Shelf

theorem Kept.grown {B : Nat} {S : Nat → Prop} {a w w' : World} {row : Option Nat} (h : Kept B S a w) (hB : B ≤ w.heap.size) (hg : w.grownBy w' row) (hr : ∀ r, row = some r → S r ∨ B ≤ r) : Kept B S a w' :=
  ⟨hg.os.trans h.os, hg.tape.trans h.tape, hg.output.trans h.output, Nat.le_trans h.size hg.size, fun k hk hs =>
    (hg.block k (Nat.lt_of_lt_of_le hk hB) (fun e => (hr k e.symm).elim hs (fun h' => by omega))).trans (h.block k hk hs)⟩
set_option maxRecDepth 100000 in
set_option maxHeartbeats 4000000 in
theorem tlbPut_any (w : World) (tp most : Nat) (v : Value) (l : List Hit) (x : Hit) (T : TS w tp most v l) (hsm : l.length ≤ 1000000) (hm1 : 1 ≤ most) (hm2 : most ≤ 1000000) :
    Calls Tryz.prog 81 #[.pointer (some ⟨tp, 0, none⟩), .agg #[.int .i64 x.asid, .int .i64 x.page, .int .i64 x.frame, .bool x.r.w, .bool x.r.u, .bool x.r.x, .bool x.dirty]] w
      fun e w' => (∃ r, e = .returned r) ∧ ∃ v', TS w' tp most v' (tput most l x) ∧ OwnN w v v' ∧ Kept w.heap.size (TSet tp v) w w' := by
  obtain ⟨i0, hi, hz0, hz1, hz2⟩ := info_parts info_hit
  obtain ⟨xa, xp, xf, ⟨xw, xu, xx⟩, xd⟩ := x
  obtain ⟨res, hres⟩ : ∃ r, tput most l ⟨xa, xp, xf, ⟨xw, xu, xx⟩, xd⟩ = r := ⟨_, rfl⟩
  rw [hres]
  dsimp only
  have b0 := bal w (.cells #[.int .i64 xa, .int .i64 xp, .int .i64 xf, .bool xw, .bool xu, .bool xx, .bool xd] 49)
  have hx := Blk.new w 49 [.int .i64 xa, .int .i64 xp, .int .i64 xf, .bool xw, .bool xu, .bool xx, .bool xd]
  have T0 := T.past b0
  obtain ⟨w0, hw0⟩ : ∃ w0, w.alloc (.cells #[.int .i64 xa, .int .i64 xp, .int .i64 xf, .bool xw, .bool xu, .bool xx, .bool xd] 49) = w0 := ⟨_, rfl⟩
  rw [show (w.alloc (.cells [Value.int .i64 xa, .int .i64 xp, .int .i64 xf, .bool xw, .bool xu, .bool xx, .bool xd].toArray 49)) = w0 from hw0] at hx
  rw [hw0] at b0 T0
  have hxt : ¬ TSet tp v w.heap.size := by
    rintro (h | h)
    · have := T.hdr.lt; omega
    · have := (T.row.lt _ h).2; omega
  have hown0 : ∀ k, v.ownBlock = some k → k < w.heap.size := fun k h => (T.row.lt _ h).2
  have HOwn := Lib.hid hown0
  clear hown0
  have hdrop := tlbDrop_any w0 tp most v l xa xp T0 hsm
  have hdl : (tdrop l xa xp).length ≤ l.length := by unfold tdrop; exact List.length_eraseP_le
  have hput : tput most l ⟨xa, xp, xf, ⟨xw, xu, xx⟩, xd⟩ = (if (tdrop l xa xp).length = most then (tdrop l xa xp).drop 1 else tdrop l xa xp) ++ [⟨xa, xp, xf, ⟨xw, xu, xx⟩, xd⟩] := rfl
  obtain ⟨l1, hl1⟩ : ∃ l1, tdrop l xa xp = l1 := ⟨_, rfl⟩
  rw [hl1] at hdrop hdl hput
  obtain ⟨isk, hisk⟩ : ∃ b, (tget l xa xp).isSome = b := ⟨_, rfl⟩
  rw [hisk] at hdrop
  have hbx : ∀ W1, Kept w0.heap.size (TSet tp v) w0 W1 → Blk W1 w.heap.size 49 [.int .i64 xa, .int .i64 xp, .int .i64 xf, .bool xw, .bool xu, .bool xx, .bool xd] := fun W1 hK => hx.kept hK hx.lt hxt
  have hKw : ∀ W1, Kept w0.heap.size (TSet tp v) w0 W1 → Kept w.heap.size (TSet tp v) w W1 := fun W1 hK => (Kept.of_below b0).trans (hK.mono b0.size (fun _ _ h => h))
  have hD := Lib.hid hdrop
  have HBX := Lib.hid hbx
  have HKW := Lib.hid hKw
  have HW := Lib.hid hw0
  have HR := Lib.hid (hres.symm.trans hput)
  have H1 := Lib.hid hi
  have HZ0 := Lib.hid hz0
  have HZ1 := Lib.hid hz1
  have HZ2 := Lib.hid hz2
  have HB0 := Lib.hid b0
  have hx0 := hx.cell (k := 0) rfl
  have hx1 := hx.cell (k := 1) rfl
  have hlx := hx.lt
  have HX0 := Lib.hid hx0
  have HX1 := Lib.hid hx1
  clear hdrop hbx hKw hw0 hres hput hi hz0 hz1 hz2 b0 hx T0 T hxt hl1 hisk hx0 hx1 hlx
  go_enter Tryz.func81, Tryz.ntmps81
  go_wp2_with (go_at_call 60; rw [HW.out]; (with_reducible refine hD.out.mono ?_); rintro e W1 ⟨rfl, v1, T1, hv1, K1⟩; have XW := HBX.out W1 K1; have HK1 := Lib.hid (HKW.out W1 K1); have HV1 := Lib.hid hv1; clear K1 hv1)
  have HXW := Lib.hid XW
  clear XW
  have p0 := T1.hdr.cell (k := 0) rfl
  have p1 := T1.hdr.cell (k := 1) rfl
  rcases T1.row.view with ⟨rfl, rfl⟩ | ⟨g1, cap1, rest1, rfl, hb1, hc1, hc2, hc3⟩
  · have hne : ((0 : Int) == (most : Int)) = false := beq_eq_false_iff_ne.2 (by omega)
    have hm0 : ¬ ([] : List Hit).length = most := by simp; omega
    go_quiet (fail)
    go_wp2_with fail
    have TW := T1.past (below_of_drewN W1 nq)
    have XW := HXW.out.past (below_of_drewN W1 nq)
    have HKq := HK1.out.drewN nq
    obtain ⟨Wq, hWq⟩ : ∃ W, W1.drewN nq = W := ⟨_, rfl⟩
    rw [hWq] at TW XW HKq
    rw [hWq]
    have HKq := Lib.hid HKq
    clear T1 HXW hWq p0 p1
    have HXq := XW.cell (k := 0) rfl
    have x1 := XW.cell (k := 1) rfl
    have x2 := XW.cell (k := 2) rfl
    have x3 := XW.cell (k := 3) rfl
    have x4 := XW.cell (k := 4) rfl
    have x5 := XW.cell (k := 5) rfl
    have x6 := XW.cell (k := 6) rfl
    have p1 := TW.hdr.cell (k := 1) rfl
    have pf := fun j => TW.hdr.free j
    have lt0 := TW.hdr.lt
    have lx0 := XW.lt
    have hown : (Wq.drew.alloc (.cells #[.int .i64 xa, .int .i64 xp, .int .i64 xf, .bool xw, .bool xu, .bool xx, .bool xd] 49)).ownsRow 0 49 7 (.slice none 0 0) (([] : List Hit)).length (hitsC (([] : List Hit))) :=
      TW.row.past ((Below.refl _ Wq).drew.alloc (Nat.le_refl _) _)
    have hnews := World.news_of_block (cs := #[.int .i64 xa, .int .i64 xp, .int .i64 xf, .bool xw, .bool xu, .bool xx, .bool xd]) (t := 49) (fr := (0, 0)) (heap_alloc_new Wq.drew (.cells #[.int .i64 xa, .int .i64 xp, .int .i64 xf, .bool xw, .bool xu, .bool xx, .bool xd] 49))
    have hone : ∀ u ∈ [Value.int .i64 xa, .int .i64 xp, .int .i64 xf, .bool xw, .bool xu, .bool xx, .bool xd], u.oneCell' = true := hitsC_one [⟨xa, xp, xf, ⟨xw, xu, xx⟩, xd⟩]
    have hTd := TW.hdr.drew.alloc (.cells #[.int .i64 xa, .int .i64 xp, .int .i64 xf, .bool xw, .bool xu, .bool xx, .bool xd] 49)
    obtain ⟨n, hn⟩ : ∃ n, (([] : List Hit)).length = n := ⟨_, rfl⟩
    have hnb : n ≤ 1000000 := by omega
    have hlv : (([] : List Hit)).length = n := hn
    rw [hn] at hown
    have HOw := Lib.hid hown
    have HNw := Lib.hid hnews
    have HOn := Lib.hid hone
    have HTd := Lib.hid hTd
    have HTW := Lib.hid TW
    have HLv := Lib.hid hlv
    clear hown hnews hone hTd TW XW hn hlv
    go_region_law (refine step_append_lies _ rfl (.tmp 32) (.tmp 34) 63 rfl 0 49 i0 zeroHit 7 32 Tryz.underlying63 H1.out HZ0.out HZ1.out HZ2.out rfl (by decide) _ n _ (by simp [Act.eval]) HOw.out ⟨Wq.heap.size, 0, none⟩ 1 1 [Value.int .i64 xa, .int .i64 xp, .int .i64 xf, .bool xw, .bool xu, .bool xx, .bool xd] (by simp [Act.eval]) rfl HNw.out HOn.out (by omega) (by unfold maxLen; omega) (by omega) (Nat.zero_le _) _ rfl ?_; intro g cap w3 hown3 hgrow3 hat3 hlt3; have hT3 := HTd.out.grownRow HOw.out (by decide) hgrow3; have y1 := hT3.cell (k := 1) rfl; have yf := fun j => hT3.free j; have HO3 := Lib.hid hown3; have HG3 := Lib.hid hgrow3; have HA3 := Lib.hid hat3; have HT3 := Lib.hid hT3; clear hown3 hgrow3 hat3 hT3)
    all_goals go_wp2
    all_goals
      refine bodyPost_end (results_none rfl _ _ _) rfl ⟨⟨_, rfl⟩, _, TS.store HT3.out ?_, ?_, ?_⟩
      · have hr : res = (([] : List Hit)) ++ [⟨xa, xp, xf, ⟨xw, xu, xx⟩, xd⟩] := by rw [HR.out]; rw [if_neg hm0]
        rw [hr]
        have h := HO3.out
        unfold HRow
        rw [hitsC_append, List.length_append, HLv.out]
        exact h
      · rcases HA3.out with h | h
        · exact .inl ((show (Value.slice (some ⟨g, 0, none⟩) (n + 1) cap).ownBlock = _ from h.symm).trans HV1.out)
        · refine .inr fun k hk => ?_
          have hk' : g = k := Option.some.inj hk
          have := HKq.out.size
          rw [← hk', h]; simp; omega
      · refine (((((HKq.out.drewN 1).alloc (by have := HKq.out.size; simpa using this) _).grown (by have := HKq.out.size; simp; omega) HG3.out (fun r e => .inl (.inr (HV1.out.symm.trans e)))).setCell (p := ⟨tp, 1, none⟩) (.inl (.inl rfl)) _))
  · by_cases hlm : l1.length = most
    · obtain ⟨n1, hn1⟩ : ∃ n, l1.length = n := ⟨_, rfl⟩
      have hn0 : 0 < l1.length := by omega
      have he : l1.eraseIdx 0 = l1.drop 1 := by cases l1 <;> rfl
      have hdel : ∀ W, Below W1.heap.size W1 W → Calls Tryz.prog 109 #[.slice (some ⟨g1, 0, none⟩) l1.length cap1, .int .i64 0, .int .i64 1] W
          fun e w' => e = .returned (.slice (some ⟨g1, 0, none⟩) (l1.eraseIdx 0).length cap1) ∧ HRow w' (.slice (some ⟨g1, 0, none⟩) (l1.eraseIdx 0).length cap1) (l1.eraseIdx 0) ∧ Kept W.heap.size (fun k => k = g1) W w' :=
        fun W hW => hdel_any W g1 cap1 0 1 rfl l1 rest1 (hb1.past hW) hc1 hc2 hc3 hn0
      obtain ⟨l2, hl2⟩ : ∃ l2, l1.drop 1 = l2 := ⟨_, rfl⟩
      rw [he, hl2] at hdel
      have hl2b : l2.length ≤ 1000000 := by rw [← hl2, List.length_drop]; omega
      obtain ⟨n2, hn2⟩ : ∃ n, l2.length = n := ⟨_, rfl⟩
      rw [hn2, hn1] at hdel
      have hgt : tp ≠ g1 := T1.hdr.ne hb1 (by decide)
      have hg1 : g1 < w.heap.size := HOwn.out g1 HV1.out.symm
      have hxg : ¬ w.heap.size = g1 := by omega
      have hxt : w.heap.size ≠ tp := HXW.out.ne T1.hdr (by decide)
      have heq : ((n1 : Int) == (most : Int)) = true := by rw [beq_iff_eq]; omega
      have HLm := Lib.hid hlm
      have HL2 := Lib.hid hl2
      have HDl := Lib.hid hdel
      have hT1 := T1
      rw [hn1] at hT1 p1
      have HT1 := Lib.hid hT1
      have HHd := Lib.hid T1.hdr
      rw [hn1] at HHd
      have hv2 : (Value.slice (some ⟨g1, 0, none⟩) n2 cap1).ownBlock = v.ownBlock := HV1.out
      have HV2 := Lib.hid hv2
      have hlx := HXW.out.lt
      have HLx := Lib.hid hlx
      clear T1 hT1 hb1 hc3 hc1 hn1 hn0 he hdel hlm hl2 hg1 hlx hv2
      go_quiet (fail)
      go_wp2_with (go_at_call 109; (with_reducible refine (HDl.out _ (below_of_drewN W1 nq)).mono ?_); rintro e W2 ⟨rfl, R2, K2⟩; have H2 := (HHd.out.past (below_of_drewN W1 nq)).kept K2 (HHd.out.past (below_of_drewN W1 nq)).lt hgt; have t2 := H2.cell (k := 1) rfl; have tf := fun j => H2.free j; have HR2 := Lib.hid R2; have HK2 := Lib.hid K2; have HH2 := Lib.hid H2; clear R2 K2 H2)
      have hr2 := HR2.out
      have hk2 := HK2.out
      have TW : TS (W2.setCell ⟨tp, 1, none⟩ (.slice (some ⟨g1, 0, none⟩) n2 cap1)) tp most (.slice (some ⟨g1, 0, none⟩) n2 cap1) l2 := TS.store HH2.out hr2
      have XW := ((HXW.out.past (below_of_drewN W1 nq)).kept hk2 HLx.out hxg).other (a := ⟨tp, 1, none⟩) hxt (.slice (some ⟨g1, 0, none⟩) n2 cap1)
      have HKq := ((HK1.out.drewN nq).trans (hk2.mono (B' := w.heap.size) (S' := TSet tp v) (HK1.out.size) (fun q _ e => .inr (by subst e; exact HV2.out.symm)))).setCell (p := ⟨tp, 1, none⟩) (.inl (.inl rfl)) (.slice (some ⟨g1, 0, none⟩) n2 cap1)
      obtain ⟨Wq, hWq⟩ : ∃ W, W2.setCell ⟨tp, 1, none⟩ (.slice (some ⟨g1, 0, none⟩) n2 cap1) = W := ⟨_, rfl⟩
      rw [hWq] at TW XW HKq
      rw [hWq]
      have HKq := Lib.hid HKq
      clear HXW hWq p0 p1 t2 tf hr2 hk2 hn2
      have HXq := XW.cell (k := 0) rfl
      have x1 := XW.cell (k := 1) rfl
      have x2 := XW.cell (k := 2) rfl
      have x3 := XW.cell (k := 3) rfl
      have x4 := XW.cell (k := 4) rfl
      have x5 := XW.cell (k := 5) rfl
      have x6 := XW.cell (k := 6) rfl
      have p1 := TW.hdr.cell (k := 1) rfl
      have pf := fun j => TW.hdr.free j
      have lt0 := TW.hdr.lt
      have lx0 := XW.lt
      have hown : (Wq.drew.alloc (.cells #[.int .i64 xa, .int .i64 xp, .int .i64 xf, .bool xw, .bool xu, .bool xx, .bool xd] 49)).ownsRow 0 49 7 (.slice (some ⟨g1, 0, none⟩) n2 cap1) (l2).length (hitsC (l2)) :=
        TW.row.past ((Below.refl _ Wq).drew.alloc (Nat.le_refl _) _)
      have hnews := World.news_of_block (cs := #[.int .i64 xa, .int .i64 xp, .int .i64 xf, .bool xw, .bool xu, .bool xx, .bool xd]) (t := 49) (fr := (0, 0)) (heap_alloc_new Wq.drew (.cells #[.int .i64 xa, .int .i64 xp, .int .i64 xf, .bool xw, .bool xu, .bool xx, .bool xd] 49))
      have hone : ∀ u ∈ [Value.int .i64 xa, .int .i64 xp, .int .i64 xf, .bool xw, .bool xu, .bool xx, .bool xd], u.oneCell' = true := hitsC_one [⟨xa, xp, xf, ⟨xw, xu, xx⟩, xd⟩]
      have hTd := TW.hdr.drew.alloc (.cells #[.int .i64 xa, .int .i64 xp, .int .i64 xf, .bool xw, .bool xu, .bool xx, .bool xd] 49)
      obtain ⟨n, hn⟩ : ∃ n, (l2).length = n := ⟨_, rfl⟩
      have hnb : n ≤ 1000000 := by omega
      have hlv : (l2).length = n := hn
      rw [hn] at hown
      have HOw := Lib.hid hown
      have HNw := Lib.hid hnews
      have HOn := Lib.hid hone
      have HTd := Lib.hid hTd
      have HTW := Lib.hid TW
      have HLv := Lib.hid hlv
      clear hown hnews hone hTd TW XW hn hlv
      go_region_law (refine step_append_lies _ rfl (.tmp 32) (.tmp 34) 63 rfl 0 49 i0 zeroHit 7 32 Tryz.underlying63 H1.out HZ0.out HZ1.out HZ2.out rfl (by decide) _ n _ (by simp [Act.eval]) HOw.out ⟨Wq.heap.size, 0, none⟩ 1 1 [Value.int .i64 xa, .int .i64 xp, .int .i64 xf, .bool xw, .bool xu, .bool xx, .bool xd] (by simp [Act.eval]) rfl HNw.out HOn.out (by omega) (by unfold maxLen; omega) (by omega) (Nat.zero_le _) _ rfl ?_; intro g cap w3 hown3 hgrow3 hat3 hlt3; have hT3 := HTd.out.grownRow HOw.out (by decide) hgrow3; have y1 := hT3.cell (k := 1) rfl; have yf := fun j => hT3.free j; have HO3 := Lib.hid hown3; have HG3 := Lib.hid hgrow3; have HA3 := Lib.hid hat3; have HT3 := Lib.hid hT3; clear hown3 hgrow3 hat3 hT3)
      all_goals go_wp2
      all_goals
        refine bodyPost_end (results_none rfl _ _ _) rfl ⟨⟨_, rfl⟩, _, TS.store HT3.out ?_, ?_, ?_⟩
        · have hr : res = (l2) ++ [⟨xa, xp, xf, ⟨xw, xu, xx⟩, xd⟩] := by rw [HR.out]; rw [if_pos HLm.out, HL2.out]
          rw [hr]
          have h := HO3.out
          unfold HRow
          rw [hitsC_append, List.length_append, HLv.out]
          exact h
        · rcases HA3.out with h | h
          · exact .inl ((show (Value.slice (some ⟨g, 0, none⟩) (n + 1) cap).ownBlock = _ from h.symm).trans HV2.out)
          · refine .inr fun k hk => ?_
            have hk' : g = k := Option.some.inj hk
            have := HKq.out.size
            rw [← hk', h]; simp; omega
        · refine (((((HKq.out.drewN 1).alloc (by have := HKq.out.size; simpa using this) _).grown (by have := HKq.out.size; simp; omega) HG3.out (fun r e => .inl (.inr (HV2.out.symm.trans e)))).setCell (p := ⟨tp, 1, none⟩) (.inl (.inl rfl)) _))
    · obtain ⟨n1, hn1⟩ : ∃ n, l1.length = n := ⟨_, rfl⟩
      have hlm' := Lib.hid hlm
      rw [hn1] at hlm p1
      have hne : ((n1 : Int) == (most : Int)) = false := beq_eq_false_iff_ne.2 (by omega)
      rw [hn1] at HV1
      have HT1 := Lib.hid T1
      rw [hn1] at HT1
      have HN1 := Lib.hid hn1
      clear T1 hb1 hc3 hc1 hn1
      go_quiet (fail)
      go_wp2_with fail
      have TW := HT1.out.past (below_of_drewN W1 nq)
      have XW := HXW.out.past (below_of_drewN W1 nq)
      have HKq := HK1.out.drewN nq
      obtain ⟨Wq, hWq⟩ : ∃ W, W1.drewN nq = W := ⟨_, rfl⟩
      rw [hWq] at TW XW HKq
      rw [hWq]
      have HKq := Lib.hid HKq
      clear HXW hWq p0 p1
      have HXq := XW.cell (k := 0) rfl
      have x1 := XW.cell (k := 1) rfl
      have x2 := XW.cell (k := 2) rfl
      have x3 := XW.cell (k := 3) rfl
      have x4 := XW.cell (k := 4) rfl
      have x5 := XW.cell (k := 5) rfl
      have x6 := XW.cell (k := 6) rfl
      have p1 := TW.hdr.cell (k := 1) rfl
      have pf := fun j => TW.hdr.free j
      have lt0 := TW.hdr.lt
      have lx0 := XW.lt
      have hown : (Wq.drew.alloc (.cells #[.int .i64 xa, .int .i64 xp, .int .i64 xf, .bool xw, .bool xu, .bool xx, .bool xd] 49)).ownsRow 0 49 7 (.slice (some ⟨g1, 0, none⟩) n1 cap1) (l1).length (hitsC (l1)) :=
        TW.row.past ((Below.refl _ Wq).drew.alloc (Nat.le_refl _) _)
      have hnews := World.news_of_block (cs := #[.int .i64 xa, .int .i64 xp, .int .i64 xf, .bool xw, .bool xu, .bool xx, .bool xd]) (t := 49) (fr := (0, 0)) (heap_alloc_new Wq.drew (.cells #[.int .i64 xa, .int .i64 xp, .int .i64 xf, .bool xw, .bool xu, .bool xx, .bool xd] 49))
      have hone : ∀ u ∈ [Value.int .i64 xa, .int .i64 xp, .int .i64 xf, .bool xw, .bool xu, .bool xx, .bool xd], u.oneCell' = true := hitsC_one [⟨xa, xp, xf, ⟨xw, xu, xx⟩, xd⟩]
      have hTd := TW.hdr.drew.alloc (.cells #[.int .i64 xa, .int .i64 xp, .int .i64 xf, .bool xw, .bool xu, .bool xx, .bool xd] 49)
      obtain ⟨n, hn⟩ : ∃ n, (l1).length = n := ⟨_, rfl⟩
      have hnb : n ≤ 1000000 := by omega
      have hlv : (l1).length = n := hn
      rw [hn] at hown
      have HOw := Lib.hid hown
      have HNw := Lib.hid hnews
      have HOn := Lib.hid hone
      have HTd := Lib.hid hTd
      have HTW := Lib.hid TW
      have HLv := Lib.hid hlv
      clear hown hnews hone hTd TW XW hn hlv
      go_region_law (refine step_append_lies _ rfl (.tmp 32) (.tmp 34) 63 rfl 0 49 i0 zeroHit 7 32 Tryz.underlying63 H1.out HZ0.out HZ1.out HZ2.out rfl (by decide) _ n _ (by simp [Act.eval]) HOw.out ⟨Wq.heap.size, 0, none⟩ 1 1 [Value.int .i64 xa, .int .i64 xp, .int .i64 xf, .bool xw, .bool xu, .bool xx, .bool xd] (by simp [Act.eval]) rfl HNw.out HOn.out (by omega) (by unfold maxLen; omega) (by omega) (Nat.zero_le _) _ rfl ?_; intro g cap w3 hown3 hgrow3 hat3 hlt3; have hT3 := HTd.out.grownRow HOw.out (by decide) hgrow3; have y1 := hT3.cell (k := 1) rfl; have yf := fun j => hT3.free j; have HO3 := Lib.hid hown3; have HG3 := Lib.hid hgrow3; have HA3 := Lib.hid hat3; have HT3 := Lib.hid hT3; clear hown3 hgrow3 hat3 hT3)
      all_goals go_wp2
      all_goals
        refine bodyPost_end (results_none rfl _ _ _) rfl ⟨⟨_, rfl⟩, _, TS.store HT3.out ?_, ?_, ?_⟩
        · have hr : res = (l1) ++ [⟨xa, xp, xf, ⟨xw, xu, xx⟩, xd⟩] := by rw [HR.out]; rw [if_neg hlm'.out]
          rw [hr]
          have h := HO3.out
          unfold HRow
          rw [hitsC_append, List.length_append, HLv.out]
          exact h
        · rcases HA3.out with h | h
          · exact .inl ((show (Value.slice (some ⟨g, 0, none⟩) (n + 1) cap).ownBlock = _ from h.symm).trans HV1.out)
          · refine .inr fun k hk => ?_
            have hk' : g = k := Option.some.inj hk
            have := HKq.out.size
            rw [← hk', h]; simp; omega
        · refine (((((HKq.out.drewN 1).alloc (by have := HKq.out.size; simpa using this) _).grown (by have := HKq.out.size; simp; omega) HG3.out (fun r e => .inl (.inr (HV1.out.symm.trans e)))).setCell (p := ⟨tp, 1, none⟩) (.inl (.inl rfl)) _))
end Go.Proofs.YtgaififhhffpfaaGreatDoor
