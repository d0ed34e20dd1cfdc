/- frame.Mem.Fill, guest.Mem.Load. -/
import Derived.Test.YtgaififhhffpfaaGreatDoorThing
import Derived.Deep.AppendLies
import Derived.Test.YtgaififhhffpfaaGreatDoorLast
import Derived.Laws.CopyRow
namespace Go.Proofs.YtgaififhhffpfaaGreatDoor
open Go.RowKit Go.Shelf

def fillM (mem : List Nat) (f : Nat) (ws : List Nat) : List Nat := (((((((mem.set (f * 8) (ws.getD 0 0)).set (f * 8 + 1) (ws.getD 1 0)).set (f * 8 + 2) (ws.getD 2 0)).set (f * 8 + 3) (ws.getD 3 0)).set (f * 8 + 4) (ws.getD 4 0)).set (f * 8 + 5) (ws.getD 5 0)).set (f * 8 + 6) (ws.getD 6 0)).set (f * 8 + 7) (ws.getD 7 0)
theorem fillM_len (mem : List Nat) (f : Nat) (ws : List Nat) : (fillM mem f ws).length = mem.length := by unfold fillM; simp
theorem set_bd {mem : List Nat} {i x : Nat} (h : ∀ v, v ∈ mem → v < 2 ^ 64) (hx : x < 2 ^ 64) : ∀ v, v ∈ mem.set i x → v < 2 ^ 64 := fun v hv => by
  rcases List.mem_or_eq_of_mem_set hv with e | e
  · exact h v e
  · subst e; exact hx
theorem fillM_bd {mem : List Nat} {f : Nat} {ws : List Nat} (h : ∀ v, v ∈ mem → v < 2 ^ 64) (hw : ∀ x, x ∈ ws → x < 2 ^ 64) (hl : ws.length = 8) : ∀ v, v ∈ fillM mem f ws → v < 2 ^ 64 := by
  have g : ∀ j, j < 8 → ws.getD j 0 < 2 ^ 64 := fun j hj => by
    rw [List.getD, List.getElem?_eq_getElem (by omega)]; exact hw _ (List.getElem_mem _)
  unfold fillM
  exact set_bd (set_bd (set_bd (set_bd (set_bd (set_bd (set_bd (set_bd h (g 0 (by omega))) (g 1 (by omega))) (g 2 (by omega))) (g 3 (by omega))) (g 4 (by omega))) (g 5 (by omega))) (g 6 (by omega))) (g 7 (by omega))
theorem word0_any (w : World) (fp fb n : Nat) (mem : List Nat) (H : Host w fp fb n mem) (f : Nat) (hf : f < n) :
    Calls Tryz.prog 122 #[.pointer (some ⟨fp, 0, none⟩), .int .i64 (f : Int), .int .i64 0] w fun e w' => e = .returned (.pointer (some ⟨fb, f * 8, none⟩)) ∧ w = w' := by
  have c0 := H.hdr.cell (k := 0) rfl
  have hsm := H.small
  have hfz : (f : Int) < (n : Int) := by omega
  clear H
  go_enter Tryz.func122, Tryz.ntmps122
  go_wp2
  go_ret
  exact ⟨rfl, rfl⟩
theorem arr8 (b off c : Nat) (W : World) : (Instr.arrayAt 217 (.slice (some ⟨b, off, none⟩) 8 c)).run Tryz.prog W = .ok (.pointer (some ⟨b, off, none⟩)) W := by kernel_rfl
set_option maxRecDepth 100000 in
set_option maxHeartbeats 2000000 in
theorem fill8_any (w : World) (fp fb n : Nat) (mem : List Nat) (H : Host w fp fb n mem) (f b off c : Nat) (x0 x1 x2 x3 x4 x5 x6 x7 : Nat) (hf : f < n) (hb : b ≠ fb)
    (hc : ∀ (j v : Nat), [x0, x1, x2, x3, x4, x5, x6, x7][j]? = some v → w.cell? ⟨b, off + j, none⟩ = some (.int .u64 (v : Int))) (hbd : ∀ x, x ∈ [x0, x1, x2, x3, x4, x5, x6, x7] → x < 2 ^ 64) :
    Calls Tryz.prog 106 #[.pointer (some ⟨fp, 0, none⟩), .int .i64 (f : Int), .slice (some ⟨b, off, none⟩) 8 c] w
      fun e w' => e = .returned (.bool true) ∧ Host w' fp fb n (fillM mem f [x0, x1, x2, x3, x4, x5, x6, x7]) ∧ Kept w.heap.size (fun k => k = fb) w w' := by
  have c0 := H.hdr.cell (k := 0) rfl
  have hsm := H.small
  have d0 := hc 0 x0 rfl
  have d1 := hc 1 x1 rfl
  have d2 := hc 2 x2 rfl
  have d3 := hc 3 x3 rfl
  have d4 := hc 4 x4 rfl
  have d5 := hc 5 x5 rfl
  have d6 := hc 6 x6 rfl
  have d7 := hc 7 x7 rfl
  rw [Nat.add_zero] at d0
  have hcell : ∀ j, j < 8 → w.cell? ⟨fb, f * 8 + j, none⟩ = some (.int .u64 ((mem.getD (f * 8 + j) 0 : Nat) : Int)) := fun j hj => H.row.cell (by
    have : f * 8 + j < mem.length := by have := H.len; omega
    simp [List.getElem?_eq_getElem this, u64, List.getD])
  have m0 := hcell 0 (by omega)
  have m1 := hcell 1 (by omega)
  have m2 := hcell 2 (by omega)
  have m3 := hcell 3 (by omega)
  have m4 := hcell 4 (by omega)
  have m5 := hcell 5 (by omega)
  have m6 := hcell 6 (by omega)
  have m7 := hcell 7 (by omega)
  rw [Nat.add_zero] at m0
  have hfz : (f : Int) < (n : Int) := by omega
  have lf := H.row.lt
  have fr := fun j => H.row.free j
  have HH := Lib.hid H
  have hne : fp ≠ fb := H.hdr.ne H.row (by decide)
  have hne' := Ne.symm hne
  have hb' := Ne.symm hb
  have lfp := H.hdr.lt
  have harr := fun W => arr8 b off c W
  have hwd := word0_any w fp fb n mem H f hf
  have HWd := Lib.hid hwd
  have HBd := Lib.hid hbd
  obtain ⟨o0, ho0⟩ : ∃ z : Int, ((mem.getD (f * 8) 0 : Nat) : Int) = z := ⟨_, rfl⟩
  rw [ho0] at m0
  clear ho0
  obtain ⟨o1, ho1⟩ : ∃ z : Int, ((mem.getD (f * 8 + 1) 0 : Nat) : Int) = z := ⟨_, rfl⟩
  rw [ho1] at m1
  clear ho1
  obtain ⟨o2, ho2⟩ : ∃ z : Int, ((mem.getD (f * 8 + 2) 0 : Nat) : Int) = z := ⟨_, rfl⟩
  rw [ho2] at m2
  clear ho2
  obtain ⟨o3, ho3⟩ : ∃ z : Int, ((mem.getD (f * 8 + 3) 0 : Nat) : Int) = z := ⟨_, rfl⟩
  rw [ho3] at m3
  clear ho3
  obtain ⟨o4, ho4⟩ : ∃ z : Int, ((mem.getD (f * 8 + 4) 0 : Nat) : Int) = z := ⟨_, rfl⟩
  rw [ho4] at m4
  clear ho4
  obtain ⟨o5, ho5⟩ : ∃ z : Int, ((mem.getD (f * 8 + 5) 0 : Nat) : Int) = z := ⟨_, rfl⟩
  rw [ho5] at m5
  clear ho5
  obtain ⟨o6, ho6⟩ : ∃ z : Int, ((mem.getD (f * 8 + 6) 0 : Nat) : Int) = z := ⟨_, rfl⟩
  rw [ho6] at m6
  clear ho6
  obtain ⟨o7, ho7⟩ : ∃ z : Int, ((mem.getD (f * 8 + 7) 0 : Nat) : Int) = z := ⟨_, rfl⟩
  rw [ho7] at m7
  clear ho7
  clear hc H hbd hwd hcell
  go_enter Tryz.func106, Tryz.ntmps106
  go_wp2_with (go_at_call 122; (with_reducible refine HWd.out.mono ?_); rintro e w' ⟨rfl, rfl⟩)
  go_region_held3 (fun w' => w'.cell? ⟨fp, 0, none⟩ = some (.slice (some ⟨fb, 0, none⟩) n n) ∧ w'.cell? ⟨b, off, none⟩ = some (.int .u64 (x0 : Int)) ∧ w'.cell? ⟨b, off + 1, none⟩ = some (.int .u64 (x1 : Int)) ∧ w'.cell? ⟨b, off + 2, none⟩ = some (.int .u64 (x2 : Int)) ∧ w'.cell? ⟨b, off + 3, none⟩ = some (.int .u64 (x3 : Int)) ∧ w'.cell? ⟨b, off + 4, none⟩ = some (.int .u64 (x4 : Int)) ∧ w'.cell? ⟨b, off + 5, none⟩ = some (.int .u64 (x5 : Int)) ∧ w'.cell? ⟨b, off + 6, none⟩ = some (.int .u64 (x6 : Int)) ∧ w'.cell? ⟨b, off + 7, none⟩ = some (.int .u64 (x7 : Int))) (go_keep) (fail)
  all_goals go_wp2
  all_goals go_ret
  have e : (fillM mem f [x0, x1, x2, x3, x4, x5, x6, x7]).map u64 = (((((((((mem.map u64).set (f * 8) (.int .u64 (x0 : Int))).set (f * 8 + 1) (.int .u64 (x1 : Int))).set (f * 8 + 2) (.int .u64 (x2 : Int))).set (f * 8 + 3) (.int .u64 (x3 : Int))).set (f * 8 + 4) (.int .u64 (x4 : Int))).set (f * 8 + 5) (.int .u64 (x5 : Int))).set (f * 8 + 6) (.int .u64 (x6 : Int))).set (f * 8 + 7) (.int .u64 (x7 : Int))) := by
    unfold fillM; simp only [List.map_set]; rfl
  have R := ((((((((HH.out.row.set (f * 8) (.int .u64 (x0 : Int))).set (f * 8 + 1) (.int .u64 (x1 : Int))).set (f * 8 + 2) (.int .u64 (x2 : Int))).set (f * 8 + 3) (.int .u64 (x3 : Int))).set (f * 8 + 4) (.int .u64 (x4 : Int))).set (f * 8 + 5) (.int .u64 (x5 : Int))).set (f * 8 + 6) (.int .u64 (x6 : Int))).set (f * 8 + 7) (.int .u64 (x7 : Int)))
  rw [← e] at R
  exact ⟨rfl, ⟨(((((((((HH.out.hdr.other (a := ⟨fb, f * 8, none⟩) hne (.int .u64 (x0 : Int))).other (a := ⟨fb, f * 8 + 1, none⟩) hne (.int .u64 (x1 : Int))).other (a := ⟨fb, f * 8 + 2, none⟩) hne (.int .u64 (x2 : Int))).other (a := ⟨fb, f * 8 + 3, none⟩) hne (.int .u64 (x3 : Int))).other (a := ⟨fb, f * 8 + 4, none⟩) hne (.int .u64 (x4 : Int))).other (a := ⟨fb, f * 8 + 5, none⟩) hne (.int .u64 (x5 : Int))).other (a := ⟨fb, f * 8 + 6, none⟩) hne (.int .u64 (x6 : Int))).other (a := ⟨fb, f * 8 + 7, none⟩) hne (.int .u64 (x7 : Int)))).drew, R.drew, by rw [fillM_len, HH.out.len], HH.out.small, fillM_bd HH.out.bd HBd.out rfl⟩, ((((((((((Kept.refl w.heap.size (fun k => k = fb) w).setCell (p := ⟨fb, f * 8, none⟩) (.inl rfl) (.int .u64 (x0 : Int))).setCell (p := ⟨fb, f * 8 + 1, none⟩) (.inl rfl) (.int .u64 (x1 : Int))).setCell (p := ⟨fb, f * 8 + 2, none⟩) (.inl rfl) (.int .u64 (x2 : Int))).setCell (p := ⟨fb, f * 8 + 3, none⟩) (.inl rfl) (.int .u64 (x3 : Int))).setCell (p := ⟨fb, f * 8 + 4, none⟩) (.inl rfl) (.int .u64 (x4 : Int))).setCell (p := ⟨fb, f * 8 + 5, none⟩) (.inl rfl) (.int .u64 (x5 : Int))).setCell (p := ⟨fb, f * 8 + 6, none⟩) (.inl rfl) (.int .u64 (x6 : Int))).setCell (p := ⟨fb, f * 8 + 7, none⟩) (.inl rfl) (.int .u64 (x7 : Int)))).drewN 1⟩
theorem fillM_get {mem : List Nat} {f : Nat} (ws : List Nat) (hm : f * 8 + 8 ≤ mem.length) (i : Nat) : (fillM mem f ws)[i]? = if f * 8 ≤ i ∧ i < f * 8 + 8 then some (ws.getD (i - f * 8) 0) else mem[i]? := by
  have l0 : f * 8 < mem.length := by omega
  have l1 : f * 8 + 1 < mem.length := by omega
  have l2 : f * 8 + 2 < mem.length := by omega
  have l3 : f * 8 + 3 < mem.length := by omega
  have l4 : f * 8 + 4 < mem.length := by omega
  have l5 : f * 8 + 5 < mem.length := by omega
  have l6 : f * 8 + 6 < mem.length := by omega
  have l7 : f * 8 + 7 < mem.length := by omega
  unfold fillM
  obtain ⟨q, hq⟩ : ∃ q, f * 8 = q := ⟨_, rfl⟩
  rw [hq] at l0 l1 l2 l3 l4 l5 l6 l7 hm ⊢
  by_cases h : q ≤ i ∧ i < q + 8
  · rw [if_pos h]
    rcases (show i = q ∨ i = q + 1 ∨ i = q + 2 ∨ i = q + 3 ∨ i = q + 4 ∨ i = q + 5 ∨ i = q + 6 ∨ i = q + 7 by omega) with rfl | rfl | rfl | rfl | rfl | rfl | rfl | rfl
    all_goals simp [l0, l1, l2, l3, l4, l5, l6, l7, Nat.add_sub_cancel_left]
  · rw [if_neg h]
    rw [List.getElem?_set_ne (by omega), List.getElem?_set_ne (by omega), List.getElem?_set_ne (by omega), List.getElem?_set_ne (by omega), List.getElem?_set_ne (by omega), List.getElem?_set_ne (by omega), List.getElem?_set_ne (by omega), List.getElem?_set_ne (by omega)]
theorem fill_take (l mem : List Nat) (hl : l.length = 128) (hm : mem.length = 128) (k : Nat) (hk : k < 16) :
    fillM (l.take (8 * k) ++ mem.drop (8 * k)) k [l.getD (8 * k) 0, l.getD (8 * k + 1) 0, l.getD (8 * k + 2) 0, l.getD (8 * k + 3) 0, l.getD (8 * k + 4) 0, l.getD (8 * k + 5) 0, l.getD (8 * k + 6) 0, l.getD (8 * k + 7) 0] = l.take (8 * (k + 1)) ++ mem.drop (8 * (k + 1)) := by
  have hlen : (l.take (8 * k) ++ mem.drop (8 * k)).length = 128 := by rw [List.length_append, List.length_take, List.length_drop]; omega
  have ht1 : (l.take (8 * k)).length = 8 * k := by rw [List.length_take]; omega
  have ht2 : (l.take (8 * (k + 1))).length = 8 * (k + 1) := by rw [List.length_take]; omega
  refine List.ext_getElem? fun i => ?_
  rw [fillM_get _ (by rw [hlen]; omega)]
  by_cases h : k * 8 ≤ i ∧ i < k * 8 + 8
  · rw [if_pos h, List.getElem?_append_left (by rw [ht2]; omega), List.getElem?_take_of_lt (by omega), List.getElem?_eq_getElem (by omega)]
    have e : ∀ j, j < 8 → i = 8 * k + j → some ([l.getD (8 * k) 0, l.getD (8 * k + 1) 0, l.getD (8 * k + 2) 0, l.getD (8 * k + 3) 0, l.getD (8 * k + 4) 0, l.getD (8 * k + 5) 0, l.getD (8 * k + 6) 0, l.getD (8 * k + 7) 0].getD j 0) = some (l.getD (8 * k + j) 0) := fun j hj _ => by
      match j, hj with
      | 0, _ => rfl
      | 1, _ => rfl
      | 2, _ => rfl
      | 3, _ => rfl
      | 4, _ => rfl
      | 5, _ => rfl
      | 6, _ => rfl
      | 7, _ => rfl
    rw [e (i - k * 8) (by omega) (by omega), show 8 * k + (i - k * 8) = i by omega, List.getD, List.getElem?_eq_getElem (by omega)]; rfl
  · rw [if_neg h]
    by_cases h2 : i < 8 * k
    · rw [List.getElem?_append_left (by rw [ht1]; omega), List.getElem?_append_left (by rw [ht2]; omega), List.getElem?_take_of_lt (by omega), List.getElem?_take_of_lt (by omega)]
    · rw [List.getElem?_append_right (by rw [ht1]; omega), List.getElem?_append_right (by rw [ht2]; omega), List.getElem?_drop, List.getElem?_drop, ht1, ht2]
      congr 1
      omega
theorem GX.gkeep {w w' : World} {A : GA} {mem : List Nat} (h : GX w A mem) (K : Kept w.drew.heap.size (fun k => k = A.fb) w.drew w') : Guest w' A.p A.gp A.hb A.mb A.fp h16 A.cap 16 := by
  obtain ⟨sp, hr⟩ := h.g.row
  have key : ∀ b T xs, Blk w b T xs → T ≠ 217 → Blk w' b T xs := fun b T xs hb hT => hb.drew.kept K hb.drew.lt (fun s => by subst s; exact hT (hb.inj h.h.row).2)
  exact ⟨key _ _ _ h.g.hdr (by decide), key _ _ _ h.g.gm (by decide), ⟨sp, key _ _ _ hr (by decide)⟩, h.g.len, h.g.bd⟩
theorem ghost_any (w : World) (A : GA) (mem : List Nat) (G : GX w A mem) (k : Nat) (hk : k < 16) :
    Calls Tryz.prog 63 #[.pointer (some ⟨A.gp, 0, none⟩), .int .i64 (k : Int)] w fun e w' => e = .returned (.tuple #[.int .i64 (k : Int), .bool true]) ∧ w = w' := by
  have c0 := G.g.gm.cell (k := 0) rfl
  have e16 : h16.length = 16 := by decide
  rw [e16] at c0
  obtain ⟨sp, hr⟩ := G.g.row
  have d0 : w.cell? ⟨A.hb, k, none⟩ = some (.int .i64 (k : Int)) := hr.cell (by
    rw [List.getElem?_append_left (by rw [List.length_map, e16]; exact hk), List.getElem?_map]
    unfold h16
    rw [List.getElem?_range hk]; rfl)
  have hkz : (k : Int) < 16 := by omega
  clear hr G
  go_enter Tryz.func63, Tryz.ntmps63
  go_wp2
  go_ret2
  exact ⟨rfl, rfl⟩
set_option maxRecDepth 100000 in
set_option maxHeartbeats 2000000 in
/-- Load -/
theorem load_any (w : World) (A : GA) (mem l : List Nat) (G : GX w A mem) (b c : Nat) (rest : List Value) (hb : Blk w b 25 (l.map u64 ++ rest)) (hl : l.length = 128) (hbd : ∀ x, x ∈ l → x < 2 ^ 64) (hc : 128 ≤ c) :
    Calls Tryz.prog 53 #[.pointer (some ⟨A.p, 0, none⟩), .slice (some ⟨b, 0, none⟩) 128 c] w
      fun e w' => e = .returned (.bool true) ∧ GX w' A l ∧ Kept w.heap.size (fun k => k = A.fb) w w' := by
  have hbf : b ≠ A.fb := hb.ne G.h.row (by decide)
  have hfr := fun W (h : GX W A (mem : List Nat)) => gm_frames h.gm
  have hml := G.len
  have HB := Lib.hid hb
  have HL := Lib.hid hl
  have HBd := Lib.hid hbd
  have HM := Lib.hid hml
  have HG := Lib.hid G
  clear hb hl hbd hml G hfr
  go_enter Tryz.func53, Tryz.ntmps53
  go_wp2_with (first
    | (go_at_call 96; (with_reducible refine (gm_frames HG.out.gm).mono ?_); rintro e w' ⟨rfl, rfl⟩))
  go_loopw [17] (fun i wr => ∃ k : Nat, k ≤ 16 ∧ i = .int .i64 k ∧ GX wr A (l.take (8 * k) ++ mem.drop (8 * k)) ∧ Kept w.heap.size (fun q => q = A.fb) w wr) (fun i _ => 16 - (intOf i).toNat)
  case atStart => exact ⟨0, by omega, rfl, by simpa using HG.out, Kept.refl _ _ _⟩
  case round =>
    obtain ⟨k, hk, rfl, hX, hK⟩ := hrel
    by_cases hkl : k < 16
    · have hgh := ghost_any wr A _ hX k hkl
      have e0 := hX.g.hdr.cell (k := 0) rfl
      have e1 := hX.g.hdr.cell (k := 1) rfl
      have lg := hX.g.hdr.lt
      have hb2 := HB.out.kept hK HB.out.lt hbf
      have hft := fill_take l mem HL.out HM.out k hkl
      obtain ⟨m0, hm0⟩ : ∃ m, l.take (8 * k) ++ mem.drop (8 * k) = m := ⟨_, rfl⟩
      rw [hm0] at hft hX
      have hkz : (k : Int) < 16 := by omega
      obtain ⟨q8, hq8⟩ : ∃ q, 8 * k = q := ⟨_, rfl⟩
      have hmul : (k : Int) * 8 = (q8 : Int) := by omega
      have hq1 : q8 + 8 ≤ 128 := by omega
      have hqw : IntKind.i64.wrap ((q8 : Int) + 8) = ((q8 + 8 : Nat) : Int) := by rw [IntKind.wrap_i64]; omega
      have hq4 : q8 + 8 - q8 = 8 := by omega
      have hqt : ((q8 : Int) + 8).toNat = q8 + 8 := by omega
      have hqne : ¬ (q8 + 8 = q8) := by omega
      have hq6 : (q8 : Int) + 8 ≤ (c : Int) := by omega
      have hq7 : (q8 : Int) ≤ (q8 : Int) + 8 := by omega
      have hfill : Calls Tryz.prog 106 #[.pointer (some ⟨A.fp, 0, none⟩), .int .i64 (k : Int), .slice (some ⟨b, q8, none⟩) 8 8] wr.drew
          fun e w' => e = .returned (.bool true) ∧ Host w' A.fp A.fb 16 (l.take (8 * (k + 1)) ++ mem.drop (8 * (k + 1))) ∧ Kept wr.drew.heap.size (fun k => k = A.fb) wr.drew w' := by
        have hcell : ∀ j, j < 8 → wr.drew.cell? ⟨b, q8 + j, none⟩ = some (.int .u64 ((l.getD (8 * k + j) 0 : Nat) : Int)) := fun j hj => hb2.drew.cell (by
          have : q8 + j < l.length := by rw [HL.out]; omega
          rw [List.getElem?_append_left (by rw [List.length_map]; exact this), List.getElem?_map, List.getElem?_eq_getElem this, hq8, List.getD, List.getElem?_eq_getElem this]; rfl)
        have := fill8_any wr.drew A.fp A.fb 16 m0 (hX.past (Below.refl _ wr).drew).h k b q8 8 (l.getD (8 * k) 0) (l.getD (8 * k + 1) 0) (l.getD (8 * k + 2) 0) (l.getD (8 * k + 3) 0) (l.getD (8 * k + 4) 0) (l.getD (8 * k + 5) 0) (l.getD (8 * k + 6) 0) (l.getD (8 * k + 7) 0) hkl hbf (fun j v hv => by
          match j, hv with
          | 0, hv => cases hv; exact hcell 0 (by omega)
          | 1, hv => cases hv; exact hcell 1 (by omega)
          | 2, hv => cases hv; exact hcell 2 (by omega)
          | 3, hv => cases hv; exact hcell 3 (by omega)
          | 4, hv => cases hv; exact hcell 4 (by omega)
          | 5, hv => cases hv; exact hcell 5 (by omega)
          | 6, hv => cases hv; exact hcell 6 (by omega)
          | 7, hv => cases hv; exact hcell 7 (by omega)
          | j + 8, hv => simp at hv) (fun x hx => by
          have hg : ∀ j, j < 8 → l.getD (8 * k + j) 0 < 2 ^ 64 := fun j hj => by
            have : 8 * k + j < l.length := by rw [HL.out]; omega
            rw [List.getD, List.getElem?_eq_getElem this]; exact HBd.out _ (List.getElem_mem _)
          simp only [List.mem_cons, List.not_mem_nil, or_false] at hx
          rcases hx with rfl | rfl | rfl | rfl | rfl | rfl | rfl | rfl
          · exact hg 0 (by omega)
          · exact hg 1 (by omega)
          · exact hg 2 (by omega)
          · exact hg 3 (by omega)
          · exact hg 4 (by omega)
          · exact hg 5 (by omega)
          · exact hg 6 (by omega)
          · exact hg 7 (by omega))
        rw [hft] at this
        exact this
      have HFill := Lib.hid hfill
      have HGh := Lib.hid hgh
      have HX := Lib.hid hX
      have HB2 := Lib.hid hb2
      have HFt := Lib.hid hft
      have HK := Lib.hid hK
      clear hgh hX hb2 hft hm0 hK hk hfill
      go_wp2_with (first
        | (go_at_call 63; (with_reducible refine HGh.out.mono ?_); rintro e w' ⟨rfl, rfl⟩))
      go_region_held3 (fun w' => w'.cell? ⟨A.p, 1, none⟩ = some (.pointer (some ⟨A.fp, 0, none⟩))) (go_keep) (first
        | (go_at_call 106; (with_reducible refine HFill.out.mono ?_); rintro e W2 ⟨rfl, h2, k2⟩; have X2 : GX W2 A (l.take (8 * (k + 1)) ++ mem.drop (8 * (k + 1))) := (HX.out.past (Below.refl _ wr).drew).turn k2 (fun b T xs s hb => by subst s; exact .inr (.inl (hb.inj HX.out.h.row.drew).2)) ⟨_, _, _, _, _, h2, HX.out.gkeep k2⟩; have f1 := X2.g.hdr.cell (k := 1) rfl))
      all_goals go_wp2
      all_goals go_roundw
      case rel => exact ⟨k + 1, by omega, by simp, X2, HK.out.trans (k2.undrew.mono HK.out.size (fun _ _ h => h))⟩
      case measure => simp [intOf]; omega
    · obtain rfl : k = 16 := by omega
      have HX := Lib.hid hX
      clear hX
      go_wp2
      go_ret
      refine ⟨rfl, ?_, hK⟩
      have := HX.out
      rw [List.take_of_length_le (by rw [HL.out]; omega), List.drop_of_length_le (by rw [HM.out]; omega), List.append_nil] at this
      exact this
set_option maxRecDepth 100000 in
set_option maxHeartbeats 2000000 in
theorem all_words_c (w : World) (p fb : Nat) (mem : List Nat) (M : GM w p fb h16 16 mem) (hl : mem.length = 128) :
    Calls Tryz.prog 40 #[.pointer (some ⟨p, 0, none⟩)] w
      fun e w' => (∃ v, e = .returned v ∧ Wd w' v mem ∧ (∀ k, v.ownBlock = some k → w.heap.size ≤ k) ∧ ∃ a c, v = .slice a 128 c ∧ 128 ≤ c) ∧ Below w.heap.size w w' := by
  obtain ⟨i0, hi, hz0, hz1, hz2⟩ := info_parts info_u64
  have hmk := mk_words
  have hemp : (w.alloc (.cells (u64s 128).toArray 25)).ownsRow w.heap.size 25 1 (.slice (some ⟨w.heap.size, 0, none⟩) 0 128) 0 [] := ⟨rfl, .inr ⟨w.heap.size, 128, (u64s 128).toArray, rfl, Nat.le_refl _, heap_alloc_new w _, by omega, by unfold maxLen; omega, rfl, rfl⟩⟩
  obtain ⟨us, hus⟩ : ∃ us, u64s 128 = us := ⟨_, rfl⟩
  rw [hus] at hmk hemp
  have MM := Lib.hid M
  have HE := Lib.hid hemp
  have H1 := Lib.hid hi
  have HZ0 := Lib.hid hz0
  have HZ1 := Lib.hid hz1
  have HZ2 := Lib.hid hz2
  have HL := Lib.hid hl
  clear hi hz0 hz1 hz2 hus hemp M hl
  go_enter Tryz.func40, Tryz.ntmps40
  go_wp2_with (first
    | (go_at_call 96; (refine (gm_frames (by first | exact MM.out | exact MM.out.past ((Below.refl _ _).alloc (Nat.le_refl _) _))).mono ?_); rintro e w' ⟨rfl, rfl⟩))
  go_loopw [3, 14] (fun v i wr => ∃ k : Nat, k ≤ 16 ∧ i = .int .i64 k ∧ wr.ownsRow w.heap.size 25 1 v (8 * k) ((mem.take (8 * k)).map u64) ∧ Below w.heap.size w wr) (fun _ i _ => 16 - (intOf i).toNat)
  case atStart => exact ⟨0, by omega, rfl, by simpa using HE.out, (Below.refl _ w).alloc (Nat.le_refl _) _⟩
  case round =>
    obtain ⟨k, hk, rfl, hown, hB⟩ := hrel
    have HO := Lib.hid hown
    clear hown hmk HE
    by_cases h16' : k < 16
    · have hd16 : decide ((k : Int) < 16) = true := by rw [decide_eq_true_iff]; omega
      go_wp2_with fail
      clear hd16
      go_loopw [3, 17] (fun v i wq => ∃ j : Nat, j ≤ 8 ∧ i = .int .i64 j ∧ wq.ownsRow w.heap.size 25 1 v (8 * k + j) ((mem.take (8 * k + j)).map u64) ∧ Below w.heap.size w wq) (fun _ i _ => 8 - (intOf i).toNat)
      case atStart => exact ⟨0, by omega, rfl, by simpa using HO.out, hB⟩
      case round =>
        obtain ⟨j, hj, rfl, hown, hBq⟩ := hrel
        have HQ := Lib.hid hown
        have hsz := hBq.size
        clear hown
        by_cases hj8 : j < 8
        · have hg := gm_get (MM.out.past hBq) (k : Int) (j : Int) _ (rd16_get HL.out k j h16' hj8)
          have hcol : (mem.take (8 * k + (j + 1))).map u64 = (mem.take (8 * k + j)).map u64 ++ [.int .u64 ((mem.getD (8 * k + j) 0 : Nat) : Int)] := by
            rw [← Nat.add_assoc, List.take_add_one, List.map_append]
            have hlt : 8 * k + j < mem.length := by rw [HL.out]; omega
            rw [List.getElem?_eq_getElem hlt, List.getD, List.getElem?_eq_getElem hlt]; rfl
          obtain ⟨x, hx⟩ : ∃ x, mem.getD (8 * k + j) 0 = x := ⟨_, rfl⟩
          rw [hx] at hg hcol
          have HGt := Lib.hid hg
          have HCl := Lib.hid hcol
          clear hcol hg hx
          go_wp2_with (first
            | (go_at_call 21; (with_reducible refine HGt.out.mono ?_); rintro e w' ⟨rfl, rfl⟩)
            | (at_builtin; refine wpList_append_own _ rfl _ _ 66 rfl w.heap.size 25 i0 _ 1 8 Tryz.underlying66 H1.out HZ0.out HZ1.out HZ2.out rfl (by decide) _ _ _ rfl (HQ.out.alloc _) ⟨wr.heap.size, 0, none⟩ 1 1 [.int .u64 (x : Int)] rfl rfl (cell_one_new _ _ _) (fun x hx => by simp at hx; subst hx; rfl) (by unfold maxLen; omega) (by omega) (by simp; omega) ?_; intro v' w3 hown' hgrow3 hnil3; have HO3 := Lib.hid hown'; have HG3 := Lib.hid hgrow3; clear hown' hgrow3 hnil3))
          go_roundw
          case rel =>
            refine ⟨j + 1, by omega, by simp, ?_, (hBq.alloc hsz _).grown HG3.out (by simp; omega) (fun r e => ?_)⟩
            · rw [HCl.out]; exact HO3.out
            · exact ((HQ.out.alloc (.cells #[.int .u64 (x : Int)] 25)).lt r e).1
          case measure => simp [intOf]; omega
        · obtain rfl : j = 8 := by omega
          go_wp2_with fail
          go_roundw
          case rel =>
            exact ⟨k + 1, by omega, by simp, by simpa [Nat.mul_add] using HQ.out, hBq⟩
          case measure => simp [intOf]; omega
    · obtain rfl : k = 16 := by omega
      go_wp2_with fail
      go_ret
      refine ⟨⟨_, rfl, ?_⟩, hB⟩
      have ho := HO.out
      rw [List.take_of_length_le (by rw [HL.out]; omega)] at ho
      rcases ho.2 with ⟨h, _⟩ | ⟨g, cap, cur, rfl, h1, h2, h3, h4, h5, h6⟩
      · omega
      · refine ⟨⟨g, cap, cur.toList.drop (8 * 16 * 1), by rw [HL.out]; rfl, ?_⟩, fun k hk => ?_, ⟨_, _, rfl, by omega⟩⟩
        · unfold Blk
          rw [h2, ← h6, List.take_append_drop]
        · simp [Value.ownBlock] at hk; omega
section
variable {w0 w : World} {ts : List Thing} (H : Hold w0 w ts) (i j : Nat)
include H
theorem words_hc {A : MA} {v : Value} {S : S10} (hi : ts[i]? = some (Go.Proofs.YtgaififhhffpfaaGreatDoor.mdl A v S)) :
    Calls Tryz.prog 40 #[.pointer (some ⟨A.g.p, 0, none⟩)] w fun e w' => ∃ a c, e = .returned (.slice a 128 c) ∧ 128 ≤ c ∧ Hold w0 w' (wds (.slice a 128 c) S.mem :: ts) := by
  have M : MX w A v S := H.at i hi
  refine (all_words_c w A.g.p A.g.fb S.mem M.g.gm M.g.len).mono ?_
  rintro e w' ⟨⟨v', rfl, hw, hn, a, c, rfl, hc⟩, hb⟩
  exact ⟨a, c, rfl, hc, H.add hb (wds (.slice a 128 c) S.mem) hw hn⟩
theorem load_h {A : GA} {mem l : List Nat} {a : Option Addr} {c : Nat} (hi : ts[i]? = some (gmem A mem)) (hj : ts[j]? = some (wds (.slice a 128 c) l)) (hl : l.length = 128) (hbd : ∀ x, x ∈ l → x < 2 ^ 64) (hc : 128 ≤ c) :
    Calls Tryz.prog 53 #[.pointer (some ⟨A.p, 0, none⟩), .slice a 128 c] w fun e w' => e = .returned (.bool true) ∧ Hold w0 w' (ts.set i (gmem A l)) := by
  obtain ⟨b, c', rest, hv, hb⟩ : Wd w (.slice a 128 c) l := H.at j hj
  rw [hl] at hv
  cases hv
  have G : GX w A mem := H.at i hi
  refine (load_any w A mem l G b c rest hb hl hbd hc).mono ?_
  rintro e w' ⟨rfl, h2, k2⟩
  exact ⟨rfl, H.step i (gmem A l) hi h2 (k2.mono (Nat.le_refl _) fun k _ e => .inr (.inl e)) (fun b hb => .inl hb)⟩
end
end Go.Proofs.YtgaififhhffpfaaGreatDoor
