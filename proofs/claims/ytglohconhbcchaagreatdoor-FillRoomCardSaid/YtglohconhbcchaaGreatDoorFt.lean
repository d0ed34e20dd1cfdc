/- Layer 17's job: take. -/
import Derived.Test.YtglohconhbcchaaGreatDoorFj
namespace Go.Proofs.YtglohconhbcchaaGreatDoor
open Go.RowKit Go.Shelf Go.Maps

set_option linter.unusedSimpArgs false
set_option linter.unusedVariables false
def pinq (pin : List Int) (l : List Int) : List Bool := l.map fun p => !pin.contains p
theorem ints_at {w : World} {bb n c : Nat} {L : List Int} {g : Int} (h : RowI w (.slice (some ⟨bb, 0, none⟩) n c) L) (m : Nat) (hm : m < L.length) (hg : L.getD m 0 = g) : w.cell? ⟨bb, m, none⟩ = some (.int .i64 g) := by
  obtain ⟨b, c', e, _, d⟩ := RowI.at h m hm
  injection e with e1 e2 e3
  injection e1 with e1
  injection e1 with e1
  subst e1
  rw [← hg]; exact d
def jtk (P : Pm) (J : JS) (k : Key) : Option Int → Bool × JS
  | some p => (true, { J with pinned := J.pinned ++ [p] })
  | none => if sleft P J.G.s = 0 then (match (sall J.G.s.ps).find? fun p => !J.pinned.contains p with
      | none => (false, J)
      | some q => jmake P { J with G := (gdrop J.G q).2 } k)
    else jmake P J k
theorem jtake_jtk (P : Pm) (J : JS) (k : Key) : jtake P J k = jtk P J k (sfind J.G.s.ps k) := by
  unfold jtake jtk
  cases sfind J.G.s.ps k <;> rfl
def jmk (J : JS) (Gn : GS) : Option Int → Bool × JS
  | some q => (true, { J with G := Gn, pinned := J.pinned ++ [q] })
  | none => (false, { J with G := Gn })
theorem jmake_jmk (P : Pm) (J : JS) (k : Key) : jmake P J k = jmk J (gmake P J.G k).2 (gmake P J.G k).1 := by
  unfold jmake
  cases hgm : gmake P J.G k with
  | mk o' G' => cases o' <;> rfl
set_option maxRecDepth 100000 in
set_option maxHeartbeats 2000000 in
theorem takeq_j {w0 w : World} {A : GAd} {P : Pm} {V : GVl} {F : FA} {jb zb : Nat} {root : Int} {pv av : Value} {J : JS} {ts : List Thing} (H : JG w0 w A P V F jb root pv av J ts) (hz : w.cell? ⟨zb, 0, none⟩ = some (.pointer (some ⟨jb, 0, none⟩))) (q : Int) :
    Calls Tryz.prog 130 #[.int .i64 q, .pointer (some ⟨zb, 0, none⟩)] w
      fun e w' => e = .returned (.bool (!J.pinned.contains q)) ∧ Below w.heap.size w w' := by
  have j2 := H.j.cell (k := 2) rfl
  have jl := H.j.lt
  have zl := lt_of_cell hz
  have hc := fun W (hW : Below w.heap.size w W) => containsI_any W pv J.pinned q (H.past hW).pin
  obtain ⟨b, hb⟩ : ∃ b, J.pinned.contains q = b := ⟨_, rfl⟩
  rw [hb] at hc ⊢
  have HC := Lib.hid hc
  clear hc H hb
  go_enter Tryz.func130, Tryz.ntmps130
  go_wp2_with (go_at_call 120; (with_reducible refine (HC.out _ (Below.refl _ _)).mono ?_); rintro e W1 ⟨rfl, b1⟩)
  go_ret
  exact ⟨rfl, b1⟩
theorem RowI.mk1 (w : World) (p : Int) : RowI (w.alloc (.cells #[.int .i64 p] 3)) (.slice (some ⟨w.heap.size, 0, none⟩) 1 1) [p] := by
  have h := World.ownsRow_lit (base := 0) (e := 3) (size := 1) w #[.int .i64 p] 1 (Nat.zero_le _) (by unfold maxLen; omega) rfl
  exact h
set_option maxRecDepth 100000 in
set_option maxHeartbeats 8000000 in
theorem take_j {w0 w : World} {A : GAd} {P : Pm} {V : GVl} {F : FA} {jb : Nat} {root : Int} {pv av : Value} {J : JS} {ts : List Thing} (H : JG w0 w A P V F jb root pv av J ts) (kg kv kr : Int) (hpl : J.pinned.length ≤ 90000) (hlm : (sall J.G.s.ps).length ≤ 1000) :
    Calls Tryz.prog 76 #[.pointer (some ⟨jb, 0, none⟩), .agg #[.int .i64 kg, .int .i64 kv, .int .i64 kr]] w
      fun e w' => e = .returned (.bool (jtake P J ⟨kg, kv, kr⟩).1) ∧ ∃ V' pv', JG w0 w' A P V' F jb root pv' av (jtake P J ⟨kg, kv, kr⟩).2 ts := by
  obtain ⟨zb, hzb⟩ : ∃ x, w.heap.size = x := ⟨_, rfl⟩
  have bq0 := bal w (.cells #[.pointer (some ⟨jb, 0, none⟩)] 159)
  have kq0 := Blk.new w 159 [.pointer (some ⟨jb, 0, none⟩)]
  have sq0 : (w.alloc (.cells #[.pointer (some ⟨jb, 0, none⟩)] 159)).heap.size = w.heap.size + 1 := by simp
  obtain ⟨w1, hw1⟩ : ∃ W', w.alloc (.cells #[.pointer (some ⟨jb, 0, none⟩)] 159) = W' := ⟨_, rfl⟩
  rw [show (w.alloc (.cells ([.pointer (some ⟨jb, 0, none⟩)] : List Value).toArray 159)) = w1 from hw1, hzb] at kq0
  rw [hw1] at bq0 sq0
  rw [hzb] at sq0
  have hq0 : HG w0 w1 A P V J.G (box (zb) 159 [.pointer (some ⟨jb, 0, none⟩)] :: jths F jb root pv av J.pinned J.anew (fths F A P ts)) := HG.add H.hg bq0 _ kq0 (fun b e => by rw [show b = zb from e]; omega)
  have bq1 := bal w1 (.cells #[.int .i64 kg, .int .i64 kv, .int .i64 kr] 54)
  have kq1 := Blk.new w1 54 [.int .i64 kg, .int .i64 kv, .int .i64 kr]
  have sq1 : (w1.alloc (.cells #[.int .i64 kg, .int .i64 kv, .int .i64 kr] 54)).heap.size = w1.heap.size + 1 := by simp
  obtain ⟨w2, hw2⟩ : ∃ W', w1.alloc (.cells #[.int .i64 kg, .int .i64 kv, .int .i64 kr] 54) = W' := ⟨_, rfl⟩
  rw [show (w1.alloc (.cells ([.int .i64 kg, .int .i64 kv, .int .i64 kr] : List Value).toArray 54)) = w2 from hw2, sq0] at kq1
  rw [hw2] at bq1 sq1
  rw [sq0] at sq1
  have hq1 : HG w0 w2 A P V J.G (box (zb + 1) 54 [.int .i64 kg, .int .i64 kv, .int .i64 kr] :: box (zb) 159 [.pointer (some ⟨jb, 0, none⟩)] :: jths F jb root pv av J.pinned J.anew (fths F A P ts)) := HG.add hq0 bq1 _ kq1 (fun b e => by rw [show b = zb + 1 from e]; rw [sq0]; exact Nat.le_refl _)
  have HW1 := Lib.hid hw1
  have HW2 := Lib.hid hw2
  have HZB := Lib.hid hzb
  have hbx : JG w0 w2 A P V F jb root pv av J (box (zb + 1) 54 [.int .i64 kg, .int .i64 kv, .int .i64 kr] :: box (zb) 159 [.pointer (some ⟨jb, 0, none⟩)] :: ts) := JG.boxes (bs := [box (zb + 1) 54 [.int .i64 kg, .int .i64 kv, .int .i64 kr], box (zb) 159 [.pointer (some ⟨jb, 0, none⟩)]]) hq1
  have SZ := Lib.hid sq1
  clear bq0 kq0 sq0 hw1 hq0 bq1 kq1 sq1 hw2 hq1 hzb
  obtain ⟨o, ho⟩ : ∃ x, sfind J.G.s.ps ⟨kg, kv, kr⟩ = x := ⟨_, rfl⟩
  have hfi := sfind_any (HG.sx (hbx.past (Below.refl _ _).drew).hg) kg kv kr o ho
  have htk := jtake_jtk P J ⟨kg, kv, kr⟩
  rw [ho] at htk
  obtain ⟨R, hR⟩ : ∃ R, jtake P J ⟨kg, kv, kr⟩ = R := ⟨_, rfl⟩
  rw [hR] at htk ⊢
  have HRr := Lib.hid htk
  have j0 := (show Blk w2 jb 161 (jcells F root pv av) from Hold.at hbx 5 rfl).cell (k := 0) rfl
  have f2 := (show Blk w2 F.fl 156 (fcells A F.gp) from Hold.at hbx 8 rfl).cell (k := 2) rfl
  have fl := (show Blk w2 F.fl 156 (fcells A F.gp) from Hold.at hbx 8 rfl).lt
  have jl := (show Blk w2 jb 161 (jcells F root pv av) from Hold.at hbx 5 rfl).lt
  have q0 := (show Blk w2 (zb) 159 [.pointer (some ⟨jb, 0, none⟩)] from Hold.at hbx 11 rfl).cell (k := 0) rfl
  have q0l := (show Blk w2 (zb) 159 [.pointer (some ⟨jb, 0, none⟩)] from Hold.at hbx 11 rfl).lt
  have k0 := (show Blk w2 (zb + 1) 54 [.int .i64 kg, .int .i64 kv, .int .i64 kr] from Hold.at hbx 10 rfl).cell (k := 0) rfl
  have k1 := (show Blk w2 (zb + 1) 54 [.int .i64 kg, .int .i64 kv, .int .i64 kr] from Hold.at hbx 10 rfl).cell (k := 1) rfl
  have k2 := (show Blk w2 (zb + 1) 54 [.int .i64 kg, .int .i64 kv, .int .i64 kr] from Hold.at hbx 10 rfl).cell (k := 2) rfl
  have kl := (show Blk w2 (zb + 1) 54 [.int .i64 kg, .int .i64 kv, .int .i64 kr] from Hold.at hbx 10 rfl).lt
  have HFi := Lib.hid hfi
  have HBX := Lib.hid hbx
  clear hfi htk H ho hbx hR
  go_enter Tryz.func76, Tryz.ntmps76
  go_upto_region 1 with (fail)
  rw [HW1.out, HW2.out, HZB.out]
  go_region_held3 (fun w' => w'.cell? ⟨jb, 0, none⟩ = some (.pointer (some ⟨F.fl, 0, none⟩)) ∧ w'.cell? ⟨F.fl, 2, none⟩ = some (.pointer (some ⟨A.sp, 0, none⟩)) ∧ w'.cell? ⟨zb, 0, none⟩ = some (.pointer (some ⟨jb, 0, none⟩)) ∧ w'.cell? ⟨zb + 1, 0, none⟩ = some (.int .i64 kg) ∧ w'.cell? ⟨zb + 1, 1, none⟩ = some (.int .i64 kv) ∧ w'.cell? ⟨zb + 1, 2, none⟩ = some (.int .i64 kr)) (go_keep) (first
    | (go_at_call 17; (with_reducible refine HFi.out.mono ?_); rintro e W3 ⟨rfl, b3⟩; have h3 := HBX.out.past ((Below.refl w2.heap.size w2).drew.trans b3); have cj0 := (show Blk W3 jb 161 (jcells F root pv av) from Hold.at h3 5 rfl).cell (k := 0) rfl; have cf2 := (show Blk W3 F.fl 156 (fcells A F.gp) from Hold.at h3 8 rfl).cell (k := 2) rfl; have cfl := (show Blk W3 F.fl 156 (fcells A F.gp) from Hold.at h3 8 rfl).lt; have cjl := (show Blk W3 jb 161 (jcells F root pv av) from Hold.at h3 5 rfl).lt; have cq0 := (show Blk W3 (zb) 159 [.pointer (some ⟨jb, 0, none⟩)] from Hold.at h3 11 rfl).cell (k := 0) rfl; have cq0l := (show Blk W3 (zb) 159 [.pointer (some ⟨jb, 0, none⟩)] from Hold.at h3 11 rfl).lt; have ck0 := (show Blk W3 (zb + 1) 54 [.int .i64 kg, .int .i64 kv, .int .i64 kr] from Hold.at h3 10 rfl).cell (k := 0) rfl; have ck1 := (show Blk W3 (zb + 1) 54 [.int .i64 kg, .int .i64 kv, .int .i64 kr] from Hold.at h3 10 rfl).cell (k := 1) rfl; have ck2 := (show Blk W3 (zb + 1) 54 [.int .i64 kg, .int .i64 kv, .int .i64 kr] from Hold.at h3 10 rfl).cell (k := 2) rfl; have ckl := (show Blk W3 (zb + 1) 54 [.int .i64 kg, .int .i64 kv, .int .i64 kr] from Hold.at h3 10 rfl).lt; have HH3 := Lib.hid h3; clear h3))
  all_goals
    clear HFi HBX HW1 HW2 HZB
    cases o with
    | some p =>
      obtain rfl : R = (true, _) := HRr.out
      clear HRr
      dsimp only [Option.getD_some, Option.isSome_some]
      go_wp2_with fail
      clear cj0 cf2 cjl cfl cq0 cq0l ck0 ck1 ck2 ckl
      have hA := HH3.out
      have aj2 := (show Blk W3 jb 161 (jcells F root pv av) from Hold.at hA 5 rfl).cell (k := 2) rfl
      have ajl := (show Blk W3 jb 161 (jcells F root pv av) from Hold.at hA 5 rfl).lt
      have ab0 := (show Blk W3 (zb) 159 [.pointer (some ⟨jb, 0, none⟩)] from Hold.at hA 11 rfl).cell (k := 0) rfl
      have abl := (show Blk W3 (zb) 159 [.pointer (some ⟨jb, 0, none⟩)] from Hold.at hA 11 rfl).lt
      have RP : RowI W3 pv J.pinned := Hold.at hA 6 rfl
      have hnw := Blk.new W3.drew 3 [.int .i64 p]
      have RN : RowI (W3.drew.alloc (.cells #[.int .i64 p] 3)) (.slice (some ⟨W3.heap.size, 0, none⟩) 1 1) [p] := RowI.mk1 W3.drew p
      have RP2 := RP.past ((Below.refl _ W3).drew.alloc (Nat.le_refl _) (.cells #[.int .i64 p] 3))
      have hA2 := hA.past ((Below.refl _ W3).drew.alloc (Nat.le_refl _) (.cells #[.int .i64 p] 3))
      have HA2 := Lib.hid hA2
      have HRN := Lib.hid RN
      have HRP := Lib.hid RP2
      clear hA hnw RN RP RP2 hA2
      refine wp_region_last (fun w' => w'.cell? ⟨jb, 2, none⟩ = some (pv) ∧ w'.cell? ⟨zb, 0, none⟩ = some (.pointer (some ⟨jb, 0, none⟩))) 10 (by kernel_rfl) (by (try dsimp only); go_keep) (fun hHeld => ?_)
      refine' wpAnyT_take (i := 0) (v := _) rfl (by kernel_rfl) (by kernel_rfl) (by kernel_rfl) (by kernel_rfl) (by kernel_rfl) (fun _ _ _ h => h) (Or.inl ⟨by with_unfolding_all rfl, ?_⟩) (by assumption) ?_
      rotate_left
      focus (intro w hSw; (try dsimp only at hSw); go_simp; try (with_reducible rfl))
      try simp only [List.getElem_toArray, List.getElem_cons_zero, Act.put, List.setIfInBounds_toArray, List.set_cons_zero, List.set_cons_succ]
      refine' wpAnyT_take (i := 1) (v := _) rfl (by kernel_rfl) (by kernel_rfl) (by kernel_rfl) (by kernel_rfl) (by kernel_rfl) (fun _ _ _ h => h) (Or.inl ⟨by with_unfolding_all rfl, ?_⟩) (by assumption) ?_
      rotate_left
      focus (intro w hSw; (try dsimp only at hSw); go_simp; try (with_reducible rfl))
      try simp only [List.getElem_toArray, List.getElem_cons_zero, List.getElem_cons_succ, Act.put, List.setIfInBounds_toArray, List.set_cons_zero, List.set_cons_succ]
      refine' wpAnyT_take (i := 2) (v := _) rfl (by kernel_rfl) (by kernel_rfl) (by kernel_rfl) (by kernel_rfl) (by kernel_rfl) (fun _ _ _ h => h) (Or.inl ⟨by with_unfolding_all rfl, ?_⟩) (by assumption) ?_
      rotate_left
      focus (intro w hSw; (try dsimp only at hSw); go_simp; try (with_reducible rfl))
      try simp only [List.getElem_toArray, List.getElem_cons_zero, List.getElem_cons_succ, Act.put, List.setIfInBounds_toArray, List.set_cons_zero, List.set_cons_succ]
      refine' wpAnyT_take (i := 3) (v := _) rfl (by kernel_rfl) (by kernel_rfl) (by kernel_rfl) (by kernel_rfl) (by kernel_rfl) (fun _ _ _ h => h) (Or.inl ⟨by with_unfolding_all rfl, ?_⟩) (by assumption) ?_
      rotate_left
      focus (intro w hSw; (try dsimp only at hSw); go_simp; try (with_reducible rfl))
      try simp only [List.getElem_toArray, List.getElem_cons_zero, List.getElem_cons_succ, Act.put, List.setIfInBounds_toArray, List.set_cons_zero, List.set_cons_succ]
      refine' wpAnyT_take (i := 4) (v := _) rfl (by kernel_rfl) (by kernel_rfl) (by kernel_rfl) (by kernel_rfl) (by kernel_rfl) (fun _ _ _ h => h) (Or.inl ⟨by with_unfolding_all rfl, ?_⟩) (by assumption) ?_
      rotate_left
      focus (intro w hSw; (try dsimp only at hSw); go_simp; try (with_reducible rfl))
      try simp only [List.getElem_toArray, List.getElem_cons_zero, List.getElem_cons_succ, Act.put, List.setIfInBounds_toArray, List.set_cons_zero, List.set_cons_succ]
      refine' wpAnyT_take (i := 5) (v := _) rfl (by kernel_rfl) (by kernel_rfl) (by kernel_rfl) (by kernel_rfl) (by kernel_rfl) (fun _ _ _ h => h) (Or.inl ⟨by with_unfolding_all rfl, ?_⟩) (by assumption) ?_
      rotate_left
      focus (intro w hSw; (try dsimp only at hSw); go_simp; try (with_reducible rfl))
      try simp only [List.getElem_toArray, List.getElem_cons_zero, List.getElem_cons_succ, Act.put, List.setIfInBounds_toArray, List.set_cons_zero, List.set_cons_succ]
      refine wpAnyL_one (i := 6) (by kernel_rfl) rfl (fun K hK => ?_)
      rw [if_pos (by with_unfolding_all rfl)]
      go_simp
      refine hK.out _ _ (fun _ => (by (try dsimp only); go_keep)) (fun hHeld => ?_)
      replace hHeld := hHeld (by decide)
      clear hK K
      try simp only [List.getElem_toArray, List.getElem_cons_zero, List.getElem_cons_succ, Act.put, List.setIfInBounds_toArray, List.set_cons_zero, List.set_cons_succ]
      refine wpAnyL_one (i := 7) (by kernel_rfl) rfl (fun K hK => ?_)
      rw [if_pos (by with_unfolding_all rfl)]
      refine app_I (.tmp 78) (.tmp 80) rfl pv (.slice (some ⟨W3.heap.size, 0, none⟩) 1 1) (by simp [Act.eval]) (by simp [Act.eval]) J.pinned [p] HRP.out HRN.out (by omega) (by simp) ?_; intro v7 w7 hr7 ho7 hk7 hb7; have h7 : HG w0 w7 A P V J.G (box jb 161 (jcells F root pv av) :: ints v7 (J.pinned ++ [p]) :: ints av J.anew :: fths F A P (box (zb + 1) 54 [.int .i64 kg, .int .i64 kv, .int .i64 kr] :: box (zb) 159 [.pointer (some ⟨jb, 0, none⟩)] :: ts)) := Hold.step HA2.out 6 (ints v7 (J.pinned ++ [p])) rfl hr7 hk7 (fun b hb => hb7.elim (fun h => .inl (by have hb' : v7.ownBlock = some b := hb; rw [h] at hb'; exact hb')) (fun h => .inr (by have hb' : v7.ownBlock = some b := hb; rw [h] at hb'; exact Nat.le_of_eq (Option.some.inj hb')))); clear hk7 hb7; obtain ⟨a7, n7, c7, rfl⟩ := row_form hr7; have dj2 := (show Blk w7 jb 161 (jcells F root pv av) from Hold.at h7 5 rfl).cell (k := 2) rfl; have djl := (show Blk w7 jb 161 (jcells F root pv av) from Hold.at h7 5 rfl).lt; have djf := fun k => (show Blk w7 jb 161 (jcells F root pv av) from Hold.at h7 5 rfl).free k; have db0 := (show Blk w7 (zb) 159 [.pointer (some ⟨jb, 0, none⟩)] from Hold.at h7 11 rfl).cell (k := 0) rfl; have dbl := (show Blk w7 (zb) 159 [.pointer (some ⟨jb, 0, none⟩)] from Hold.at h7 11 rfl).lt; have HH7 := Lib.hid h7; clear h7
      refine hK.out _ _ (fun _ => (by (try dsimp only); go_keep)) (fun hHeld => ?_)
      replace hHeld := hHeld (by decide)
      clear hK K
      try simp only [List.getElem_toArray, List.getElem_cons_zero, List.getElem_cons_succ, Act.put, List.setIfInBounds_toArray, List.set_cons_zero, List.set_cons_succ]
      refine' wpAnyT_take (i := 8) (v := _) rfl (by kernel_rfl) (by kernel_rfl) (by kernel_rfl) (by kernel_rfl) (by kernel_rfl) (fun _ _ _ h => h) (Or.inl ⟨by with_unfolding_all rfl, ?_⟩) (by assumption) ?_
      rotate_left
      focus (intro w hSw; (try dsimp only at hSw); go_simp; try (with_reducible rfl))
      try simp only [List.getElem_toArray, List.getElem_cons_zero, List.getElem_cons_succ, Act.put, List.setIfInBounds_toArray, List.set_cons_zero, List.set_cons_succ]
      refine' wpAnyT_take (i := 9) (v := _) rfl (by kernel_rfl) (by kernel_rfl) (by kernel_rfl) (by kernel_rfl) (by kernel_rfl) (fun _ _ _ h => h) (Or.inl ⟨by with_unfolding_all rfl, ?_⟩) (by assumption) ?_
      rotate_left
      focus (intro w hSw; (try dsimp only at hSw); go_simp; try (with_reducible rfl))
      try simp only [List.getElem_toArray, List.getElem_cons_zero, List.getElem_cons_succ, Act.put, List.setIfInBounds_toArray, List.set_cons_zero, List.set_cons_succ]
      refine wpAnyL_one (i := 10) (by kernel_rfl) rfl (fun K hK => ?_)
      rw [if_pos (by with_unfolding_all rfl)]
      go_simp
      refine hK.out _ _ (fun h => absurd rfl h) (fun _ => ?_)
      clear hK K
      refine wpAnyL_done (by kernel_rfl) ?_
      go_wp2_with fail
      go_ret
      have h8 : JG w0 _ A P V F jb root (.slice a7 n7 c7) av { J with pinned := J.pinned ++ [p] } (box (zb + 1) 54 [.int .i64 kg, .int .i64 kv, .int .i64 kr] :: box (zb) 159 [.pointer (some ⟨jb, 0, none⟩)] :: ts) := Hold.put HH7.out 5 (b := jb) rfl 2 (.slice a7 n7 c7)
      exact ⟨rfl, V, _, JG.unbox (bs := [box (zb + 1) 54 [.int .i64 kg, .int .i64 kv, .int .i64 kr], box (zb) 159 [.pointer (some ⟨jb, 0, none⟩)]]) h8⟩
    | none =>
      dsimp only [Option.getD_none, Option.isSome_none]
      have hlf := left_any HH3.out.hg
      try dsimp only at hlf
      obtain ⟨n, hn⟩ : ∃ x, sleft P J.G.s = x := ⟨_, rfl⟩
      have hR : R = if sleft P J.G.s = 0 then (match (sall J.G.s.ps).find? fun p => !J.pinned.contains p with
          | none => (false, J)
          | some q => jmake P { J with G := (gdrop J.G q).2 } ⟨kg, kv, kr⟩) else jmake P J ⟨kg, kv, kr⟩ := HRr.out
      rw [hn] at hlf hR
      have HLf := Lib.hid hlf
      clear hlf hn HRr
      by_cases hn0 : n = 0
      · subst hn0
        rw [if_pos rfl] at hR
        have HRr := Lib.hid hR
        clear hR
        go_upto_region 3 with (first
          | (go_at_call 21; (with_reducible refine HLf.out.mono ?_); rintro e W4 ⟨rfl, b4⟩))
        have h4 := HH3.out.past b4
        clear HLf b4 HH3 cj0 cf2 cjl cfl cq0 cq0l ck0 ck1 ck2 ckl
        have dj0 := (show Blk W4 jb 161 (jcells F root pv av) from Hold.at h4 5 rfl).cell (k := 0) rfl
        have df2 := (show Blk W4 F.fl 156 (fcells A F.gp) from Hold.at h4 8 rfl).cell (k := 2) rfl
        have dfl := (show Blk W4 F.fl 156 (fcells A F.gp) from Hold.at h4 8 rfl).lt
        have djl := (show Blk W4 jb 161 (jcells F root pv av) from Hold.at h4 5 rfl).lt
        have dq0 := (show Blk W4 (zb) 159 [.pointer (some ⟨jb, 0, none⟩)] from Hold.at h4 11 rfl).cell (k := 0) rfl
        have dq0l := (show Blk W4 (zb) 159 [.pointer (some ⟨jb, 0, none⟩)] from Hold.at h4 11 rfl).lt
        have dk0 := (show Blk W4 (zb + 1) 54 [.int .i64 kg, .int .i64 kv, .int .i64 kr] from Hold.at h4 10 rfl).cell (k := 0) rfl
        have dk1 := (show Blk W4 (zb + 1) 54 [.int .i64 kg, .int .i64 kv, .int .i64 kr] from Hold.at h4 10 rfl).cell (k := 1) rfl
        have dk2 := (show Blk W4 (zb + 1) 54 [.int .i64 kg, .int .i64 kv, .int .i64 kr] from Hold.at h4 10 rfl).cell (k := 2) rfl
        have dkl := (show Blk W4 (zb + 1) 54 [.int .i64 kg, .int .i64 kv, .int .i64 kr] from Hold.at h4 10 rfl).lt
        have hal := sall_any (HG.sx h4.hg)
        try dsimp only at hal
        obtain ⟨L, hL⟩ : ∃ x, sall J.G.s.ps = x := ⟨_, rfl⟩
        have hR := HRr.out
        rw [hL] at hal hlm hR
        clear HRr hL
        have HAl := Lib.hid hal
        have HH4 := Lib.hid h4
        obtain ⟨ln, hln⟩ : ∃ x, L.length = x := ⟨_, rfl⟩
        rw [hln] at hlm
        have HLn := Lib.hid hln
        clear hal h4 hln
        have hpq : ∀ k, k < L.length → (pinq J.pinned L).getD k false = !J.pinned.contains (L.getD k 0) := fun k hk => by
          unfold pinq
          rw [List.getD, List.getElem?_map, List.getElem?_eq_getElem hk, List.getD, List.getElem?_eq_getElem hk]; rfl
        have hix : ∀ (W : World) (v : Value), Below W4.heap.size W4 W → RowI W v L → Calls Tryz.prog 129 #[v, .func (.func 130) #[] #[.pointer (some ⟨zb, 0, none⟩)]] W
            fun e W' => e = .returned (.int .i64 (fidx id (pinq J.pinned L))) ∧ Below W.heap.size W W' := fun W v hW hr =>
          ixI_any W v L 130 #[.pointer (some ⟨zb, 0, none⟩)] (pinq J.pinned L) hr (by unfold pinq; simp) (enters_of Tryz.func130 (by kernel_rfl) rfl) (fun k hk W2 hW2 => by
            have h := (HH4.out.past hW).past hW2
            have := takeq_j h (zb := zb) ((show Blk W2 zb 159 [.pointer (some ⟨jb, 0, none⟩)] from Hold.at h 11 rfl).cell (k := 0) rfl) (L.getD k 0)
            rw [hpq k hk]
            exact this)
        have hfm : fidx id (pinq J.pinned L) = fidx (fun p => !J.pinned.contains p) L := by unfold pinq; rw [fidx_map]
        rcases fidx_forms (fun p => !J.pinned.contains p) L with ⟨_, e1, e2, _⟩ | ⟨k, hk, e1, e2, _, _⟩
        · rw [hfm, e1] at hix
          rw [e2] at hR
          obtain rfl : R = (false, J) := hR
          have HIx := Lib.hid hix
          clear hix hpq hfm e1 e2
          go_wp2_with (first
            | (go_at_call 20; (with_reducible refine HAl.out.mono ?_); rintro e W5 ⟨⟨v5, rfl, hv5⟩, b5⟩; have hr5 := hv5.row; obtain ⟨a5, n5, c5, rfl⟩ := row_form hr5; have hx5 := HIx.out W5 _ b5 hr5; have HX5 := Lib.hid hx5; clear hx5 hv5 hr5)
            | (go_at_call 129; (with_reducible refine HX5.out.mono ?_); rintro e W6 ⟨rfl, b6⟩))
          go_ret
          exact ⟨rfl, V, pv, JG.unbox (bs := [box (zb + 1) 54 [.int .i64 kg, .int .i64 kv, .int .i64 kr], box (zb) 159 [.pointer (some ⟨jb, 0, none⟩)]]) (HH4.out.past (b5.trans (b6.mono b5.size)))⟩
        · rw [hfm, e1] at hix
          rw [e2] at hR
          have HIx := Lib.hid hix
          obtain ⟨q, hq⟩ : ∃ x, L.getD k 0 = x := ⟨_, rfl⟩
          have hqk : L[k] = q := by rw [← hq, List.getD, List.getElem?_eq_getElem hk]; rfl
          rw [hqk] at hR
          replace hR : R = jmake P { J with G := (gdrop J.G q).2 } ⟨kg, kv, kr⟩ := hR
          have hkl : k < ln := by rw [← HLn.out]; exact hk
          have HRr := Lib.hid hR
          have HQ := Lib.hid hq
          have HKl := Lib.hid hk
          clear hix hpq hfm e1 e2 hR hq hqk hk
          go_wp2_with (first
            | (go_at_call 20; (with_reducible refine HAl.out.mono ?_); rintro e W5 ⟨⟨v5, rfl, hv5⟩, b5⟩; have hr5 := hv5.row; have h5 := HH4.out.hg.add b5 (ints v5 L) hr5 (fun b hb => hv5.lo b hb); obtain ⟨gb, gc, rfl, lgb, dgb⟩ := RowI.at hr5 k HKl.out; have hx5 := HIx.out W5 _ b5 hr5; rw [HLn.out] at hx5 h5 ⊢; have HX5 := Lib.hid hx5; have HH5 := Lib.hid h5; clear hx5 hv5 hr5 h5 dgb lgb)
            | (go_at_call 129; (with_reducible refine HX5.out.mono ?_); rintro e W6 ⟨rfl, b6⟩; have h6 := HH5.out.past b6; have HH6 := Lib.hid h6; clear h6))
          have h6 := HH6.out
          clear dj0 df2 djl dfl dq0 dq0l dk0 dk1 dk2 dkl
          have ej0 := (show Blk W6 jb 161 (jcells F root pv av) from Hold.at h6 6 rfl).cell (k := 0) rfl
          have ef3 := (show Blk W6 F.fl 156 (fcells A F.gp) from Hold.at h6 9 rfl).cell (k := 3) rfl
          have efl := (show Blk W6 F.fl 156 (fcells A F.gp) from Hold.at h6 9 rfl).lt
          have ejl := (show Blk W6 jb 161 (jcells F root pv av) from Hold.at h6 6 rfl).lt
          have eq0 := (show Blk W6 (zb) 159 [.pointer (some ⟨jb, 0, none⟩)] from Hold.at h6 12 rfl).cell (k := 0) rfl
          have eq0l := (show Blk W6 (zb) 159 [.pointer (some ⟨jb, 0, none⟩)] from Hold.at h6 12 rfl).lt
          have ek0 := (show Blk W6 (zb + 1) 54 [.int .i64 kg, .int .i64 kv, .int .i64 kr] from Hold.at h6 11 rfl).cell (k := 0) rfl
          have ek1 := (show Blk W6 (zb + 1) 54 [.int .i64 kg, .int .i64 kv, .int .i64 kr] from Hold.at h6 11 rfl).cell (k := 1) rfl
          have ek2 := (show Blk W6 (zb + 1) 54 [.int .i64 kg, .int .i64 kv, .int .i64 kr] from Hold.at h6 11 rfl).cell (k := 2) rfl
          have ekl := (show Blk W6 (zb + 1) 54 [.int .i64 kg, .int .i64 kv, .int .i64 kr] from Hold.at h6 11 rfl).lt
          have r6 := ints_at (show RowI W6 (.slice (some ⟨gb, 0, none⟩) ln gc) L from Hold.at h6 5 rfl) k HKl.out HQ.out
          have rl6 := lt_of_cell r6
          have hgd := gdrop_h (h6.past (Below.refl _ _).drew) q
          have HGd := Lib.hid hgd
          clear hgd h6
          go_region_held3 (fun w' => w'.cell? ⟨jb, 0, none⟩ = some (.pointer (some ⟨F.fl, 0, none⟩)) ∧ w'.cell? ⟨F.fl, 3, none⟩ = some (.pointer (some ⟨A.dp, 0, none⟩)) ∧ w'.cell? ⟨zb, 0, none⟩ = some (.pointer (some ⟨jb, 0, none⟩)) ∧ w'.cell? ⟨zb + 1, 0, none⟩ = some (.int .i64 kg) ∧ w'.cell? ⟨zb + 1, 1, none⟩ = some (.int .i64 kv) ∧ w'.cell? ⟨zb + 1, 2, none⟩ = some (.int .i64 kr) ∧ w'.cell? ⟨gb, k, none⟩ = some (.int .i64 q)) (go_keep) (first
            | (go_at_call 56; (with_reducible refine HGd.out.mono ?_); rintro e W7 ⟨rfl, V7, h7⟩; have gj0 := (show Blk W7 jb 161 (jcells F root pv av) from Hold.at h7 6 rfl).cell (k := 0) rfl; have gf3 := (show Blk W7 F.fl 156 (fcells A F.gp) from Hold.at h7 9 rfl).cell (k := 3) rfl; have gfl := (show Blk W7 F.fl 156 (fcells A F.gp) from Hold.at h7 9 rfl).lt; have gjl := (show Blk W7 jb 161 (jcells F root pv av) from Hold.at h7 6 rfl).lt; have gq0 := (show Blk W7 (zb) 159 [.pointer (some ⟨jb, 0, none⟩)] from Hold.at h7 12 rfl).cell (k := 0) rfl; have gq0l := (show Blk W7 (zb) 159 [.pointer (some ⟨jb, 0, none⟩)] from Hold.at h7 12 rfl).lt; have gk0 := (show Blk W7 (zb + 1) 54 [.int .i64 kg, .int .i64 kv, .int .i64 kr] from Hold.at h7 11 rfl).cell (k := 0) rfl; have gk1 := (show Blk W7 (zb + 1) 54 [.int .i64 kg, .int .i64 kv, .int .i64 kr] from Hold.at h7 11 rfl).cell (k := 1) rfl; have gk2 := (show Blk W7 (zb + 1) 54 [.int .i64 kg, .int .i64 kv, .int .i64 kr] from Hold.at h7 11 rfl).cell (k := 2) rfl; have gkl := (show Blk W7 (zb + 1) 54 [.int .i64 kg, .int .i64 kv, .int .i64 kr] from Hold.at h7 11 rfl).lt; have r7 := ints_at (show RowI W7 (.slice (some ⟨gb, 0, none⟩) ln gc) L from Hold.at h7 5 rfl) k HKl.out HQ.out; have rl7 := lt_of_cell r7; have h7' : JG w0 W7 A P V7 F jb root pv av { J with G := (gdrop J.G q).2 } (box (zb + 1) 54 [.int .i64 kg, .int .i64 kv, .int .i64 kr] :: box (zb) 159 [.pointer (some ⟨jb, 0, none⟩)] :: ts) := HG.tail h7; have HH7 := Lib.hid h7'; clear h7 h7'))
          all_goals
            clear HX5 HIx HAl HH5 HH6 HGd HH4 ej0 ef3 ejl efl eq0 eq0l ek0 ek1 ek2 ekl r6 rl6 gj0 gf3 gjl gfl gq0 gq0l gk0 gk1 gk2 gkl r7 rl7
            go_wp2_with fail
            have hM := HH7.out
            have mj0 := (show Blk W7 jb 161 (jcells F root pv av) from Hold.at hM 5 rfl).cell (k := 0) rfl
            have mf3 := (show Blk W7 F.fl 156 (fcells A F.gp) from Hold.at hM 8 rfl).cell (k := 3) rfl
            have mfl := (show Blk W7 F.fl 156 (fcells A F.gp) from Hold.at hM 8 rfl).lt
            have mjl := (show Blk W7 jb 161 (jcells F root pv av) from Hold.at hM 5 rfl).lt
            have mq0 := (show Blk W7 (zb) 159 [.pointer (some ⟨jb, 0, none⟩)] from Hold.at hM 11 rfl).cell (k := 0) rfl
            have mq0l := (show Blk W7 (zb) 159 [.pointer (some ⟨jb, 0, none⟩)] from Hold.at hM 11 rfl).lt
            have mk0 := (show Blk W7 (zb + 1) 54 [.int .i64 kg, .int .i64 kv, .int .i64 kr] from Hold.at hM 10 rfl).cell (k := 0) rfl
            have mk1 := (show Blk W7 (zb + 1) 54 [.int .i64 kg, .int .i64 kv, .int .i64 kr] from Hold.at hM 10 rfl).cell (k := 1) rfl
            have mk2 := (show Blk W7 (zb + 1) 54 [.int .i64 kg, .int .i64 kv, .int .i64 kr] from Hold.at hM 10 rfl).cell (k := 2) rfl
            have mkl := (show Blk W7 (zb + 1) 54 [.int .i64 kg, .int .i64 kv, .int .i64 kr] from Hold.at hM 10 rfl).lt
            have hmk := gmake_h (hM.past (Below.refl _ _).drew).hg kg kv kr
            obtain ⟨op, hop⟩ : ∃ x, (gmake P { J with G := (gdrop J.G q).2 }.G ⟨kg, kv, kr⟩).1 = x := ⟨_, rfl⟩
            obtain ⟨Gn, hGn⟩ : ∃ x, (gmake P { J with G := (gdrop J.G q).2 }.G ⟨kg, kv, kr⟩).2 = x := ⟨_, rfl⟩
            have hR := HRr.out
            rw [jmake_jmk] at hR
            try dsimp only at hR
            rw [hop, hGn] at hR
            clear HRr
            have HRr := Lib.hid hR
            clear hR
            try dsimp only at hmk
            rw [hop, hGn] at hmk
            have HMk := Lib.hid hmk
            clear hmk hM hop hGn
            go_region_held3 (fun w' => w'.cell? ⟨jb, 0, none⟩ = some (.pointer (some ⟨F.fl, 0, none⟩)) ∧ w'.cell? ⟨F.fl, 3, none⟩ = some (.pointer (some ⟨A.dp, 0, none⟩)) ∧ w'.cell? ⟨zb, 0, none⟩ = some (.pointer (some ⟨jb, 0, none⟩)) ∧ w'.cell? ⟨zb + 1, 0, none⟩ = some (.int .i64 kg) ∧ w'.cell? ⟨zb + 1, 1, none⟩ = some (.int .i64 kv) ∧ w'.cell? ⟨zb + 1, 2, none⟩ = some (.int .i64 kr)) (go_keep) (first
              | (go_at_call 131; (with_reducible refine HMk.out.mono ?_); rintro e W5 ⟨rfl, V5, h5⟩; have h5' : JG w0 W5 A P V5 F jb root pv av { { J with G := (gdrop J.G q).2 } with G := Gn } (box (zb + 1) 54 [.int .i64 kg, .int .i64 kv, .int .i64 kr] :: box (zb) 159 [.pointer (some ⟨jb, 0, none⟩)] :: ts) := h5; have nj0 := (show Blk W5 jb 161 (jcells F root pv av) from Hold.at h5' 5 rfl).cell (k := 0) rfl; have nf3 := (show Blk W5 F.fl 156 (fcells A F.gp) from Hold.at h5' 8 rfl).cell (k := 3) rfl; have nfl := (show Blk W5 F.fl 156 (fcells A F.gp) from Hold.at h5' 8 rfl).lt; have njl := (show Blk W5 jb 161 (jcells F root pv av) from Hold.at h5' 5 rfl).lt; have nq0 := (show Blk W5 (zb) 159 [.pointer (some ⟨jb, 0, none⟩)] from Hold.at h5' 11 rfl).cell (k := 0) rfl; have nq0l := (show Blk W5 (zb) 159 [.pointer (some ⟨jb, 0, none⟩)] from Hold.at h5' 11 rfl).lt; have nk0 := (show Blk W5 (zb + 1) 54 [.int .i64 kg, .int .i64 kv, .int .i64 kr] from Hold.at h5' 10 rfl).cell (k := 0) rfl; have nk1 := (show Blk W5 (zb + 1) 54 [.int .i64 kg, .int .i64 kv, .int .i64 kr] from Hold.at h5' 10 rfl).cell (k := 1) rfl; have nk2 := (show Blk W5 (zb + 1) 54 [.int .i64 kg, .int .i64 kv, .int .i64 kr] from Hold.at h5' 10 rfl).cell (k := 2) rfl; have nkl := (show Blk W5 (zb + 1) 54 [.int .i64 kg, .int .i64 kv, .int .i64 kr] from Hold.at h5' 10 rfl).lt; have HH5 := Lib.hid h5'; clear h5 h5'))
            all_goals
              cases op with
              | none =>
                obtain rfl : R = (false, _) := HRr.out
                clear HRr
                dsimp only [Option.getD_none, Option.isSome_none]
                go_wp2_with fail
                go_ret
                exact ⟨rfl, V5, pv, JG.unbox (bs := [box (zb + 1) 54 [.int .i64 kg, .int .i64 kv, .int .i64 kr], box (zb) 159 [.pointer (some ⟨jb, 0, none⟩)]]) HH5.out⟩
              | some q =>
                obtain rfl : R = (true, _) := HRr.out
                clear HRr
                dsimp only [Option.getD_some, Option.isSome_some]
                go_wp2_with fail
                have hA := HH5.out
                have aj2 := (show Blk W5 jb 161 (jcells F root pv av) from Hold.at hA 5 rfl).cell (k := 2) rfl
                have ajl := (show Blk W5 jb 161 (jcells F root pv av) from Hold.at hA 5 rfl).lt
                have ab0 := (show Blk W5 (zb) 159 [.pointer (some ⟨jb, 0, none⟩)] from Hold.at hA 11 rfl).cell (k := 0) rfl
                have abl := (show Blk W5 (zb) 159 [.pointer (some ⟨jb, 0, none⟩)] from Hold.at hA 11 rfl).lt
                have RP : RowI W5 pv J.pinned := Hold.at hA 6 rfl
                have hnw := Blk.new W5.drew 3 [.int .i64 q]
                have RN : RowI (W5.drew.alloc (.cells #[.int .i64 q] 3)) (.slice (some ⟨W5.heap.size, 0, none⟩) 1 1) [q] := RowI.mk1 W5.drew q
                have RP2 := RP.past ((Below.refl _ W5).drew.alloc (Nat.le_refl _) (.cells #[.int .i64 q] 3))
                have hA2 := hA.past ((Below.refl _ W5).drew.alloc (Nat.le_refl _) (.cells #[.int .i64 q] 3))
                have HA2 := Lib.hid hA2
                have HRN := Lib.hid RN
                have HRP := Lib.hid RP2
                clear hA hnw RN RP RP2 hA2
                refine wp_region_last (fun w' => w'.cell? ⟨jb, 2, none⟩ = some (pv) ∧ w'.cell? ⟨zb, 0, none⟩ = some (.pointer (some ⟨jb, 0, none⟩))) 10 (by kernel_rfl) (by (try dsimp only); go_keep) (fun hHeld => ?_)
                refine' wpAnyT_take (i := 0) (v := _) rfl (by kernel_rfl) (by kernel_rfl) (by kernel_rfl) (by kernel_rfl) (by kernel_rfl) (fun _ _ _ h => h) (Or.inl ⟨by with_unfolding_all rfl, ?_⟩) (by assumption) ?_
                rotate_left
                focus (intro w hSw; (try dsimp only at hSw); go_simp; try (with_reducible rfl))
                try simp only [List.getElem_toArray, List.getElem_cons_zero, Act.put, List.setIfInBounds_toArray, List.set_cons_zero, List.set_cons_succ]
                refine' wpAnyT_take (i := 1) (v := _) rfl (by kernel_rfl) (by kernel_rfl) (by kernel_rfl) (by kernel_rfl) (by kernel_rfl) (fun _ _ _ h => h) (Or.inl ⟨by with_unfolding_all rfl, ?_⟩) (by assumption) ?_
                rotate_left
                focus (intro w hSw; (try dsimp only at hSw); go_simp; try (with_reducible rfl))
                try simp only [List.getElem_toArray, List.getElem_cons_zero, List.getElem_cons_succ, Act.put, List.setIfInBounds_toArray, List.set_cons_zero, List.set_cons_succ]
                refine' wpAnyT_take (i := 2) (v := _) rfl (by kernel_rfl) (by kernel_rfl) (by kernel_rfl) (by kernel_rfl) (by kernel_rfl) (fun _ _ _ h => h) (Or.inl ⟨by with_unfolding_all rfl, ?_⟩) (by assumption) ?_
                rotate_left
                focus (intro w hSw; (try dsimp only at hSw); go_simp; try (with_reducible rfl))
                try simp only [List.getElem_toArray, List.getElem_cons_zero, List.getElem_cons_succ, Act.put, List.setIfInBounds_toArray, List.set_cons_zero, List.set_cons_succ]
                refine' wpAnyT_take (i := 3) (v := _) rfl (by kernel_rfl) (by kernel_rfl) (by kernel_rfl) (by kernel_rfl) (by kernel_rfl) (fun _ _ _ h => h) (Or.inl ⟨by with_unfolding_all rfl, ?_⟩) (by assumption) ?_
                rotate_left
                focus (intro w hSw; (try dsimp only at hSw); go_simp; try (with_reducible rfl))
                try simp only [List.getElem_toArray, List.getElem_cons_zero, List.getElem_cons_succ, Act.put, List.setIfInBounds_toArray, List.set_cons_zero, List.set_cons_succ]
                refine' wpAnyT_take (i := 4) (v := _) rfl (by kernel_rfl) (by kernel_rfl) (by kernel_rfl) (by kernel_rfl) (by kernel_rfl) (fun _ _ _ h => h) (Or.inl ⟨by with_unfolding_all rfl, ?_⟩) (by assumption) ?_
                rotate_left
                focus (intro w hSw; (try dsimp only at hSw); go_simp; try (with_reducible rfl))
                try simp only [List.getElem_toArray, List.getElem_cons_zero, List.getElem_cons_succ, Act.put, List.setIfInBounds_toArray, List.set_cons_zero, List.set_cons_succ]
                refine' wpAnyT_take (i := 5) (v := _) rfl (by kernel_rfl) (by kernel_rfl) (by kernel_rfl) (by kernel_rfl) (by kernel_rfl) (fun _ _ _ h => h) (Or.inl ⟨by with_unfolding_all rfl, ?_⟩) (by assumption) ?_
                rotate_left
                focus (intro w hSw; (try dsimp only at hSw); go_simp; try (with_reducible rfl))
                try simp only [List.getElem_toArray, List.getElem_cons_zero, List.getElem_cons_succ, Act.put, List.setIfInBounds_toArray, List.set_cons_zero, List.set_cons_succ]
                refine wpAnyL_one (i := 6) (by kernel_rfl) rfl (fun K hK => ?_)
                rw [if_pos (by with_unfolding_all rfl)]
                go_simp
                refine hK.out _ _ (fun _ => (by (try dsimp only); go_keep)) (fun hHeld => ?_)
                replace hHeld := hHeld (by decide)
                clear hK K
                try simp only [List.getElem_toArray, List.getElem_cons_zero, List.getElem_cons_succ, Act.put, List.setIfInBounds_toArray, List.set_cons_zero, List.set_cons_succ]
                refine wpAnyL_one (i := 7) (by kernel_rfl) rfl (fun K hK => ?_)
                rw [if_pos (by with_unfolding_all rfl)]
                refine app_I (.tmp 78) (.tmp 80) rfl pv (.slice (some ⟨W5.heap.size, 0, none⟩) 1 1) (by simp [Act.eval]) (by simp [Act.eval]) J.pinned [q] HRP.out HRN.out (by omega) (by simp) ?_; intro v7 w7 hr7 ho7 hk7 hb7; have h7 : HG w0 w7 A P V5 { { J with G := (gdrop J.G q).2 } with G := Gn }.G (box jb 161 (jcells F root pv av) :: ints v7 (J.pinned ++ [q]) :: ints av J.anew :: fths F A P (box (zb + 1) 54 [.int .i64 kg, .int .i64 kv, .int .i64 kr] :: box (zb) 159 [.pointer (some ⟨jb, 0, none⟩)] :: ts)) := Hold.step HA2.out 6 (ints v7 (J.pinned ++ [q])) rfl hr7 hk7 (fun b hb => hb7.elim (fun h => .inl (by have hb' : v7.ownBlock = some b := hb; rw [h] at hb'; exact hb')) (fun h => .inr (by have hb' : v7.ownBlock = some b := hb; rw [h] at hb'; exact Nat.le_of_eq (Option.some.inj hb')))); clear hk7 hb7; obtain ⟨a7, n7, c7, rfl⟩ := row_form hr7; have dj2 := (show Blk w7 jb 161 (jcells F root pv av) from Hold.at h7 5 rfl).cell (k := 2) rfl; have djl := (show Blk w7 jb 161 (jcells F root pv av) from Hold.at h7 5 rfl).lt; have djf := fun k => (show Blk w7 jb 161 (jcells F root pv av) from Hold.at h7 5 rfl).free k; have db0 := (show Blk w7 (zb) 159 [.pointer (some ⟨jb, 0, none⟩)] from Hold.at h7 11 rfl).cell (k := 0) rfl; have dbl := (show Blk w7 (zb) 159 [.pointer (some ⟨jb, 0, none⟩)] from Hold.at h7 11 rfl).lt; have HH7 := Lib.hid h7; clear h7
                refine hK.out _ _ (fun _ => (by (try dsimp only); go_keep)) (fun hHeld => ?_)
                replace hHeld := hHeld (by decide)
                clear hK K
                try simp only [List.getElem_toArray, List.getElem_cons_zero, List.getElem_cons_succ, Act.put, List.setIfInBounds_toArray, List.set_cons_zero, List.set_cons_succ]
                refine' wpAnyT_take (i := 8) (v := _) rfl (by kernel_rfl) (by kernel_rfl) (by kernel_rfl) (by kernel_rfl) (by kernel_rfl) (fun _ _ _ h => h) (Or.inl ⟨by with_unfolding_all rfl, ?_⟩) (by assumption) ?_
                rotate_left
                focus (intro w hSw; (try dsimp only at hSw); go_simp; try (with_reducible rfl))
                try simp only [List.getElem_toArray, List.getElem_cons_zero, List.getElem_cons_succ, Act.put, List.setIfInBounds_toArray, List.set_cons_zero, List.set_cons_succ]
                refine' wpAnyT_take (i := 9) (v := _) rfl (by kernel_rfl) (by kernel_rfl) (by kernel_rfl) (by kernel_rfl) (by kernel_rfl) (fun _ _ _ h => h) (Or.inl ⟨by with_unfolding_all rfl, ?_⟩) (by assumption) ?_
                rotate_left
                focus (intro w hSw; (try dsimp only at hSw); go_simp; try (with_reducible rfl))
                try simp only [List.getElem_toArray, List.getElem_cons_zero, List.getElem_cons_succ, Act.put, List.setIfInBounds_toArray, List.set_cons_zero, List.set_cons_succ]
                refine wpAnyL_one (i := 10) (by kernel_rfl) rfl (fun K hK => ?_)
                rw [if_pos (by with_unfolding_all rfl)]
                go_simp
                refine hK.out _ _ (fun h => absurd rfl h) (fun _ => ?_)
                clear hK K
                refine wpAnyL_done (by kernel_rfl) ?_
                go_wp2_with fail
                go_ret
                have h8 : JG w0 _ A P V5 F jb root (.slice a7 n7 c7) av { { { J with G := (gdrop J.G q).2 } with G := Gn } with pinned := J.pinned ++ [q] } (box (zb + 1) 54 [.int .i64 kg, .int .i64 kv, .int .i64 kr] :: box (zb) 159 [.pointer (some ⟨jb, 0, none⟩)] :: ts) := Hold.put HH7.out 5 (b := jb) rfl 2 (.slice a7 n7 c7)
                exact ⟨rfl, V5, _, JG.unbox (bs := [box (zb + 1) 54 [.int .i64 kg, .int .i64 kv, .int .i64 kr], box (zb) 159 [.pointer (some ⟨jb, 0, none⟩)]]) h8⟩
      · rw [if_neg hn0] at hR
        have HRr := Lib.hid hR
        clear hR
        have fn0 : (((n : Nat) : Int) == 0) = false := beq_eq_false_iff_ne.2 (by omega)
        have fn1 : ((n : Nat) == 0) = false := beq_eq_false_iff_ne.2 hn0
        go_upto_region 9 with (first
          | (go_at_call 21; (with_reducible refine HLf.out.mono ?_); rintro e W4 ⟨rfl, b4⟩))
        have HH4 := Lib.hid (HH3.out.past b4)
        clear HLf b4 HH3 fn0 fn1 hn0 cj0 cf2 cjl cfl cq0 cq0l ck0 ck1 ck2 ckl
        have hM := HH4.out
        have mj0 := (show Blk W4 jb 161 (jcells F root pv av) from Hold.at hM 5 rfl).cell (k := 0) rfl
        have mf3 := (show Blk W4 F.fl 156 (fcells A F.gp) from Hold.at hM 8 rfl).cell (k := 3) rfl
        have mfl := (show Blk W4 F.fl 156 (fcells A F.gp) from Hold.at hM 8 rfl).lt
        have mjl := (show Blk W4 jb 161 (jcells F root pv av) from Hold.at hM 5 rfl).lt
        have mq0 := (show Blk W4 (zb) 159 [.pointer (some ⟨jb, 0, none⟩)] from Hold.at hM 11 rfl).cell (k := 0) rfl
        have mq0l := (show Blk W4 (zb) 159 [.pointer (some ⟨jb, 0, none⟩)] from Hold.at hM 11 rfl).lt
        have mk0 := (show Blk W4 (zb + 1) 54 [.int .i64 kg, .int .i64 kv, .int .i64 kr] from Hold.at hM 10 rfl).cell (k := 0) rfl
        have mk1 := (show Blk W4 (zb + 1) 54 [.int .i64 kg, .int .i64 kv, .int .i64 kr] from Hold.at hM 10 rfl).cell (k := 1) rfl
        have mk2 := (show Blk W4 (zb + 1) 54 [.int .i64 kg, .int .i64 kv, .int .i64 kr] from Hold.at hM 10 rfl).cell (k := 2) rfl
        have mkl := (show Blk W4 (zb + 1) 54 [.int .i64 kg, .int .i64 kv, .int .i64 kr] from Hold.at hM 10 rfl).lt
        have hmk := gmake_h (hM.past (Below.refl _ _).drew).hg kg kv kr
        obtain ⟨op, hop⟩ : ∃ x, (gmake P J.G ⟨kg, kv, kr⟩).1 = x := ⟨_, rfl⟩
        obtain ⟨Gn, hGn⟩ : ∃ x, (gmake P J.G ⟨kg, kv, kr⟩).2 = x := ⟨_, rfl⟩
        have hR := HRr.out
        rw [jmake_jmk] at hR
        try dsimp only at hR
        rw [hop, hGn] at hR
        clear HRr
        have HRr := Lib.hid hR
        clear hR
        try dsimp only at hmk
        rw [hop, hGn] at hmk
        have HMk := Lib.hid hmk
        clear hmk hM hop hGn
        go_region_held3 (fun w' => w'.cell? ⟨jb, 0, none⟩ = some (.pointer (some ⟨F.fl, 0, none⟩)) ∧ w'.cell? ⟨F.fl, 3, none⟩ = some (.pointer (some ⟨A.dp, 0, none⟩)) ∧ w'.cell? ⟨zb, 0, none⟩ = some (.pointer (some ⟨jb, 0, none⟩)) ∧ w'.cell? ⟨zb + 1, 0, none⟩ = some (.int .i64 kg) ∧ w'.cell? ⟨zb + 1, 1, none⟩ = some (.int .i64 kv) ∧ w'.cell? ⟨zb + 1, 2, none⟩ = some (.int .i64 kr)) (go_keep) (first
          | (go_at_call 131; (with_reducible refine HMk.out.mono ?_); rintro e W5 ⟨rfl, V5, h5⟩; have h5' : JG w0 W5 A P V5 F jb root pv av { J with G := Gn } (box (zb + 1) 54 [.int .i64 kg, .int .i64 kv, .int .i64 kr] :: box (zb) 159 [.pointer (some ⟨jb, 0, none⟩)] :: ts) := h5; have nj0 := (show Blk W5 jb 161 (jcells F root pv av) from Hold.at h5' 5 rfl).cell (k := 0) rfl; have nf3 := (show Blk W5 F.fl 156 (fcells A F.gp) from Hold.at h5' 8 rfl).cell (k := 3) rfl; have nfl := (show Blk W5 F.fl 156 (fcells A F.gp) from Hold.at h5' 8 rfl).lt; have njl := (show Blk W5 jb 161 (jcells F root pv av) from Hold.at h5' 5 rfl).lt; have nq0 := (show Blk W5 (zb) 159 [.pointer (some ⟨jb, 0, none⟩)] from Hold.at h5' 11 rfl).cell (k := 0) rfl; have nq0l := (show Blk W5 (zb) 159 [.pointer (some ⟨jb, 0, none⟩)] from Hold.at h5' 11 rfl).lt; have nk0 := (show Blk W5 (zb + 1) 54 [.int .i64 kg, .int .i64 kv, .int .i64 kr] from Hold.at h5' 10 rfl).cell (k := 0) rfl; have nk1 := (show Blk W5 (zb + 1) 54 [.int .i64 kg, .int .i64 kv, .int .i64 kr] from Hold.at h5' 10 rfl).cell (k := 1) rfl; have nk2 := (show Blk W5 (zb + 1) 54 [.int .i64 kg, .int .i64 kv, .int .i64 kr] from Hold.at h5' 10 rfl).cell (k := 2) rfl; have nkl := (show Blk W5 (zb + 1) 54 [.int .i64 kg, .int .i64 kv, .int .i64 kr] from Hold.at h5' 10 rfl).lt; have HH5 := Lib.hid h5'; clear h5 h5'))
        all_goals
          cases op with
          | none =>
            obtain rfl : R = (false, _) := HRr.out
            clear HRr
            dsimp only [Option.getD_none, Option.isSome_none]
            go_wp2_with fail
            go_ret
            exact ⟨rfl, V5, pv, JG.unbox (bs := [box (zb + 1) 54 [.int .i64 kg, .int .i64 kv, .int .i64 kr], box (zb) 159 [.pointer (some ⟨jb, 0, none⟩)]]) HH5.out⟩
          | some q =>
            obtain rfl : R = (true, _) := HRr.out
            clear HRr
            dsimp only [Option.getD_some, Option.isSome_some]
            go_wp2_with fail
            have hA := HH5.out
            have aj2 := (show Blk W5 jb 161 (jcells F root pv av) from Hold.at hA 5 rfl).cell (k := 2) rfl
            have ajl := (show Blk W5 jb 161 (jcells F root pv av) from Hold.at hA 5 rfl).lt
            have ab0 := (show Blk W5 (zb) 159 [.pointer (some ⟨jb, 0, none⟩)] from Hold.at hA 11 rfl).cell (k := 0) rfl
            have abl := (show Blk W5 (zb) 159 [.pointer (some ⟨jb, 0, none⟩)] from Hold.at hA 11 rfl).lt
            have RP : RowI W5 pv J.pinned := Hold.at hA 6 rfl
            have hnw := Blk.new W5.drew 3 [.int .i64 q]
            have RN : RowI (W5.drew.alloc (.cells #[.int .i64 q] 3)) (.slice (some ⟨W5.heap.size, 0, none⟩) 1 1) [q] := RowI.mk1 W5.drew q
            have RP2 := RP.past ((Below.refl _ W5).drew.alloc (Nat.le_refl _) (.cells #[.int .i64 q] 3))
            have hA2 := hA.past ((Below.refl _ W5).drew.alloc (Nat.le_refl _) (.cells #[.int .i64 q] 3))
            have HA2 := Lib.hid hA2
            have HRN := Lib.hid RN
            have HRP := Lib.hid RP2
            clear hA hnw RN RP RP2 hA2
            refine wp_region_last (fun w' => w'.cell? ⟨jb, 2, none⟩ = some (pv) ∧ w'.cell? ⟨zb, 0, none⟩ = some (.pointer (some ⟨jb, 0, none⟩))) 10 (by kernel_rfl) (by (try dsimp only); go_keep) (fun hHeld => ?_)
            refine' wpAnyT_take (i := 0) (v := _) rfl (by kernel_rfl) (by kernel_rfl) (by kernel_rfl) (by kernel_rfl) (by kernel_rfl) (fun _ _ _ h => h) (Or.inl ⟨by with_unfolding_all rfl, ?_⟩) (by assumption) ?_
            rotate_left
            focus (intro w hSw; (try dsimp only at hSw); go_simp; try (with_reducible rfl))
            try simp only [List.getElem_toArray, List.getElem_cons_zero, Act.put, List.setIfInBounds_toArray, List.set_cons_zero, List.set_cons_succ]
            refine' wpAnyT_take (i := 1) (v := _) rfl (by kernel_rfl) (by kernel_rfl) (by kernel_rfl) (by kernel_rfl) (by kernel_rfl) (fun _ _ _ h => h) (Or.inl ⟨by with_unfolding_all rfl, ?_⟩) (by assumption) ?_
            rotate_left
            focus (intro w hSw; (try dsimp only at hSw); go_simp; try (with_reducible rfl))
            try simp only [List.getElem_toArray, List.getElem_cons_zero, List.getElem_cons_succ, Act.put, List.setIfInBounds_toArray, List.set_cons_zero, List.set_cons_succ]
            refine' wpAnyT_take (i := 2) (v := _) rfl (by kernel_rfl) (by kernel_rfl) (by kernel_rfl) (by kernel_rfl) (by kernel_rfl) (fun _ _ _ h => h) (Or.inl ⟨by with_unfolding_all rfl, ?_⟩) (by assumption) ?_
            rotate_left
            focus (intro w hSw; (try dsimp only at hSw); go_simp; try (with_reducible rfl))
            try simp only [List.getElem_toArray, List.getElem_cons_zero, List.getElem_cons_succ, Act.put, List.setIfInBounds_toArray, List.set_cons_zero, List.set_cons_succ]
            refine' wpAnyT_take (i := 3) (v := _) rfl (by kernel_rfl) (by kernel_rfl) (by kernel_rfl) (by kernel_rfl) (by kernel_rfl) (fun _ _ _ h => h) (Or.inl ⟨by with_unfolding_all rfl, ?_⟩) (by assumption) ?_
            rotate_left
            focus (intro w hSw; (try dsimp only at hSw); go_simp; try (with_reducible rfl))
            try simp only [List.getElem_toArray, List.getElem_cons_zero, List.getElem_cons_succ, Act.put, List.setIfInBounds_toArray, List.set_cons_zero, List.set_cons_succ]
            refine' wpAnyT_take (i := 4) (v := _) rfl (by kernel_rfl) (by kernel_rfl) (by kernel_rfl) (by kernel_rfl) (by kernel_rfl) (fun _ _ _ h => h) (Or.inl ⟨by with_unfolding_all rfl, ?_⟩) (by assumption) ?_
            rotate_left
            focus (intro w hSw; (try dsimp only at hSw); go_simp; try (with_reducible rfl))
            try simp only [List.getElem_toArray, List.getElem_cons_zero, List.getElem_cons_succ, Act.put, List.setIfInBounds_toArray, List.set_cons_zero, List.set_cons_succ]
            refine' wpAnyT_take (i := 5) (v := _) rfl (by kernel_rfl) (by kernel_rfl) (by kernel_rfl) (by kernel_rfl) (by kernel_rfl) (fun _ _ _ h => h) (Or.inl ⟨by with_unfolding_all rfl, ?_⟩) (by assumption) ?_
            rotate_left
            focus (intro w hSw; (try dsimp only at hSw); go_simp; try (with_reducible rfl))
            try simp only [List.getElem_toArray, List.getElem_cons_zero, List.getElem_cons_succ, Act.put, List.setIfInBounds_toArray, List.set_cons_zero, List.set_cons_succ]
            refine wpAnyL_one (i := 6) (by kernel_rfl) rfl (fun K hK => ?_)
            rw [if_pos (by with_unfolding_all rfl)]
            go_simp
            refine hK.out _ _ (fun _ => (by (try dsimp only); go_keep)) (fun hHeld => ?_)
            replace hHeld := hHeld (by decide)
            clear hK K
            try simp only [List.getElem_toArray, List.getElem_cons_zero, List.getElem_cons_succ, Act.put, List.setIfInBounds_toArray, List.set_cons_zero, List.set_cons_succ]
            refine wpAnyL_one (i := 7) (by kernel_rfl) rfl (fun K hK => ?_)
            rw [if_pos (by with_unfolding_all rfl)]
            refine app_I (.tmp 78) (.tmp 80) rfl pv (.slice (some ⟨W5.heap.size, 0, none⟩) 1 1) (by simp [Act.eval]) (by simp [Act.eval]) J.pinned [q] HRP.out HRN.out (by omega) (by simp) ?_; intro v7 w7 hr7 ho7 hk7 hb7; have h7 : HG w0 w7 A P V5 { J with G := Gn }.G (box jb 161 (jcells F root pv av) :: ints v7 (J.pinned ++ [q]) :: ints av J.anew :: fths F A P (box (zb + 1) 54 [.int .i64 kg, .int .i64 kv, .int .i64 kr] :: box (zb) 159 [.pointer (some ⟨jb, 0, none⟩)] :: ts)) := Hold.step HA2.out 6 (ints v7 (J.pinned ++ [q])) rfl hr7 hk7 (fun b hb => hb7.elim (fun h => .inl (by have hb' : v7.ownBlock = some b := hb; rw [h] at hb'; exact hb')) (fun h => .inr (by have hb' : v7.ownBlock = some b := hb; rw [h] at hb'; exact Nat.le_of_eq (Option.some.inj hb')))); clear hk7 hb7; obtain ⟨a7, n7, c7, rfl⟩ := row_form hr7; have dj2 := (show Blk w7 jb 161 (jcells F root pv av) from Hold.at h7 5 rfl).cell (k := 2) rfl; have djl := (show Blk w7 jb 161 (jcells F root pv av) from Hold.at h7 5 rfl).lt; have djf := fun k => (show Blk w7 jb 161 (jcells F root pv av) from Hold.at h7 5 rfl).free k; have db0 := (show Blk w7 (zb) 159 [.pointer (some ⟨jb, 0, none⟩)] from Hold.at h7 11 rfl).cell (k := 0) rfl; have dbl := (show Blk w7 (zb) 159 [.pointer (some ⟨jb, 0, none⟩)] from Hold.at h7 11 rfl).lt; have HH7 := Lib.hid h7; clear h7
            refine hK.out _ _ (fun _ => (by (try dsimp only); go_keep)) (fun hHeld => ?_)
            replace hHeld := hHeld (by decide)
            clear hK K
            try simp only [List.getElem_toArray, List.getElem_cons_zero, List.getElem_cons_succ, Act.put, List.setIfInBounds_toArray, List.set_cons_zero, List.set_cons_succ]
            refine' wpAnyT_take (i := 8) (v := _) rfl (by kernel_rfl) (by kernel_rfl) (by kernel_rfl) (by kernel_rfl) (by kernel_rfl) (fun _ _ _ h => h) (Or.inl ⟨by with_unfolding_all rfl, ?_⟩) (by assumption) ?_
            rotate_left
            focus (intro w hSw; (try dsimp only at hSw); go_simp; try (with_reducible rfl))
            try simp only [List.getElem_toArray, List.getElem_cons_zero, List.getElem_cons_succ, Act.put, List.setIfInBounds_toArray, List.set_cons_zero, List.set_cons_succ]
            refine' wpAnyT_take (i := 9) (v := _) rfl (by kernel_rfl) (by kernel_rfl) (by kernel_rfl) (by kernel_rfl) (by kernel_rfl) (fun _ _ _ h => h) (Or.inl ⟨by with_unfolding_all rfl, ?_⟩) (by assumption) ?_
            rotate_left
            focus (intro w hSw; (try dsimp only at hSw); go_simp; try (with_reducible rfl))
            try simp only [List.getElem_toArray, List.getElem_cons_zero, List.getElem_cons_succ, Act.put, List.setIfInBounds_toArray, List.set_cons_zero, List.set_cons_succ]
            refine wpAnyL_one (i := 10) (by kernel_rfl) rfl (fun K hK => ?_)
            rw [if_pos (by with_unfolding_all rfl)]
            go_simp
            refine hK.out _ _ (fun h => absurd rfl h) (fun _ => ?_)
            clear hK K
            refine wpAnyL_done (by kernel_rfl) ?_
            go_wp2_with fail
            go_ret
            have h8 : JG w0 _ A P V5 F jb root (.slice a7 n7 c7) av { { J with G := Gn } with pinned := J.pinned ++ [q] } (box (zb + 1) 54 [.int .i64 kg, .int .i64 kv, .int .i64 kr] :: box (zb) 159 [.pointer (some ⟨jb, 0, none⟩)] :: ts) := Hold.put HH7.out 5 (b := jb) rfl 2 (.slice a7 n7 c7)
            exact ⟨rfl, V5, _, JG.unbox (bs := [box (zb + 1) 54 [.int .i64 kg, .int .i64 kv, .int .i64 kr], box (zb) 159 [.pointer (some ⟨jb, 0, none⟩)]]) h8⟩
end Go.Proofs.YtglohconhbcchaaGreatDoor
