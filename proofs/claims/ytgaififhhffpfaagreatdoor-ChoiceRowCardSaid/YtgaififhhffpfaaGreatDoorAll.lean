/- guest.Mem's All; silhouetteref01.SameWords. -/
import Derived.Test.YtgaififhhffpfaaGreatDoorMade
import Derived.Test.YtgaififhhffpfaaGreatDoorMovesP
namespace Go.Proofs.YtgaififhhffpfaaGreatDoor
open Go.RowKit

theorem info_u64 : (Tryz.prog.info? 25).map (fun i => (i.zero, i.size, i.bytes)) = some (some (.int .u64 0), 1, 8) := by kernel_rfl
theorem mk_words (w : World) : (Instr.makeSlice 66 (.int .i64 0) (.int .i64 128)).run Tryz.prog w = .ok (.slice (some ⟨w.heap.size, 0, none⟩) 0 128) (w.alloc (.cells (u64s 128).toArray 25)) := by kernel_rfl
theorem frames_all (w : World) (p gp hb mb fp : Nat) (hosts : List Nat) (cap n : Nat) (G : Guest w p gp hb mb fp hosts cap n) :
    Calls Tryz.prog 96 #[.pointer (some ⟨p, 0, none⟩)] w fun e w' => e = .returned (.int .i64 (hosts.length : Int)) ∧ w = w' := by
  have b1 := G.hdr.cell (k := 0) rfl
  have c1 := G.gm.cell (k := 0) rfl
  go_enter Tryz.func96, Tryz.ntmps96
  go_wp2
  go_ret
  exact ⟨rfl, rfl⟩
theorem gm_frames {w : World} {p fb n : Nat} {mem : List Nat} (h : GM w p fb h16 n mem) :
    Calls Tryz.prog 96 #[.pointer (some ⟨p, 0, none⟩)] w fun e w' => e = .returned (.int .i64 16) ∧ w = w' := by
  obtain ⟨gp, hb', mb, fp, cap, H, G⟩ := h
  exact frames_all w p gp hb' mb fp h16 cap n G
/-- a row of words that is read -/
def Wd (w : World) (v : Value) (l : List Nat) : Prop := ∃ b c rest, v = .slice (some ⟨b, 0, none⟩) l.length c ∧ Blk w b 25 (l.map u64 ++ rest)
theorem Wd.past {w w' : World} {v : Value} {l : List Nat} (h : Wd w v l) (hb : Below w.heap.size w w') : Wd w' v l := by
  obtain ⟨b, c, rest, h1, h2⟩ := h
  exact ⟨b, c, rest, h1, h2.past hb⟩
theorem rd16_get {mem : List Nat} (hl : mem.length = 128) (g i : Nat) (hg : g < 16) (hi : i < 8) : rd h16 mem (g : Int) (i : Int) = some (mem.getD (8 * g + i) 0) := by
  unfold rd
  rw [place16, if_pos ⟨by omega, by omega, by omega, by omega⟩]
  simp only [Option.bind_some, Int.toNat_natCast]
  exact some_getD (by omega)

set_option maxRecDepth 100000 in
set_option maxHeartbeats 2000000 in
theorem all_words (w : World) (p fb : Nat) (mem : List Nat) (M : GM w p fb h16 16 mem) (hl : mem.length = 128) :
    Calls Tryz.prog 40 #[.pointer (some ⟨p, 0, none⟩)] w
      fun e w' => (∃ v, e = .returned v ∧ Wd w' v mem) ∧ Below w.heap.size w w' := by
  obtain ⟨i0, hi, hz0, hz1, hz2⟩ := info_parts info_u64
  have hmk := mk_words
  have hemp : (w.alloc (.cells (u64s 128).toArray 25)).ownsRow w.heap.size 25 1 (.slice (some ⟨w.heap.size, 0, none⟩) 0 128) 0 [] := ⟨rfl, .inr ⟨w.heap.size, 128, (u64s 128).toArray, rfl, Nat.le_refl _, heap_alloc_new w _, by omega, by unfold maxLen; omega, rfl, rfl⟩⟩
  obtain ⟨us, hus⟩ : ∃ us, u64s 128 = us := ⟨_, rfl⟩
  rw [hus] at hmk hemp
  have MM := Lib.hid M
  have HE := Lib.hid hemp
  have H1 := Lib.hid hi
  have HZ0 := Lib.hid hz0
  have HZ1 := Lib.hid hz1
  have HZ2 := Lib.hid hz2
  have HL := Lib.hid hl
  clear hi hz0 hz1 hz2 hus hemp M hl
  go_enter Tryz.func40, Tryz.ntmps40
  go_wp2_with (first
    | (go_at_call 96; (refine (gm_frames (by first | exact MM.out | exact MM.out.past ((Below.refl _ _).alloc (Nat.le_refl _) _))).mono ?_); rintro e w' ⟨rfl, rfl⟩))
  go_loopw [3, 14] (fun v i wr => ∃ k : Nat, k ≤ 16 ∧ i = .int .i64 k ∧ wr.ownsRow w.heap.size 25 1 v (8 * k) ((mem.take (8 * k)).map u64) ∧ Below w.heap.size w wr) (fun _ i _ => 16 - (intOf i).toNat)
  case atStart => exact ⟨0, by omega, rfl, by simpa using HE.out, (Below.refl _ w).alloc (Nat.le_refl _) _⟩
  case round =>
    obtain ⟨k, hk, rfl, hown, hB⟩ := hrel
    have HO := Lib.hid hown
    clear hown hmk HE
    by_cases h16' : k < 16
    · have hd16 : decide ((k : Int) < 16) = true := by rw [decide_eq_true_iff]; omega
      go_wp2_with fail
      clear hd16
      go_loopw [3, 17] (fun v i wq => ∃ j : Nat, j ≤ 8 ∧ i = .int .i64 j ∧ wq.ownsRow w.heap.size 25 1 v (8 * k + j) ((mem.take (8 * k + j)).map u64) ∧ Below w.heap.size w wq) (fun _ i _ => 8 - (intOf i).toNat)
      case atStart => exact ⟨0, by omega, rfl, by simpa using HO.out, hB⟩
      case round =>
        obtain ⟨j, hj, rfl, hown, hBq⟩ := hrel
        have HQ := Lib.hid hown
        have hsz := hBq.size
        clear hown
        by_cases hj8 : j < 8
        · have hg := gm_get (MM.out.past hBq) (k : Int) (j : Int) _ (rd16_get HL.out k j h16' hj8)
          have hcol : (mem.take (8 * k + (j + 1))).map u64 = (mem.take (8 * k + j)).map u64 ++ [.int .u64 ((mem.getD (8 * k + j) 0 : Nat) : Int)] := by
            rw [← Nat.add_assoc, List.take_add_one, List.map_append]
            have hlt : 8 * k + j < mem.length := by rw [HL.out]; omega
            rw [List.getElem?_eq_getElem hlt, List.getD, List.getElem?_eq_getElem hlt]; rfl
          obtain ⟨x, hx⟩ : ∃ x, mem.getD (8 * k + j) 0 = x := ⟨_, rfl⟩
          rw [hx] at hg hcol
          have HGt := Lib.hid hg
          have HCl := Lib.hid hcol
          clear hcol hg hx
          go_wp2_with (first
            | (go_at_call 21; (with_reducible refine HGt.out.mono ?_); rintro e w' ⟨rfl, rfl⟩)
            | (at_builtin; refine wpList_append_own _ rfl _ _ 66 rfl w.heap.size 25 i0 _ 1 8 Tryz.underlying66 H1.out HZ0.out HZ1.out HZ2.out rfl (by decide) _ _ _ rfl (HQ.out.alloc _) ⟨wr.heap.size, 0, none⟩ 1 1 [.int .u64 (x : Int)] rfl rfl (cell_one_new _ _ _) (fun x hx => by simp at hx; subst hx; rfl) (by unfold maxLen; omega) (by omega) (by simp; omega) ?_; intro v' w3 hown' hgrow3 hnil3; have HO3 := Lib.hid hown'; have HG3 := Lib.hid hgrow3; clear hown' hgrow3 hnil3))
          go_roundw
          case rel =>
            refine ⟨j + 1, by omega, by simp, ?_, (hBq.alloc hsz _).grown HG3.out (by simp; omega) (fun r e => ?_)⟩
            · rw [HCl.out]; exact HO3.out
            · exact ((HQ.out.alloc (.cells #[.int .u64 (x : Int)] 25)).lt r e).1
          case measure => simp [intOf]; omega
        · obtain rfl : j = 8 := by omega
          go_wp2_with fail
          go_roundw
          case rel =>
            exact ⟨k + 1, by omega, by simp, by simpa [Nat.mul_add] using HQ.out, hBq⟩
          case measure => simp [intOf]; omega
    · obtain rfl : k = 16 := by omega
      go_wp2_with fail
      go_ret
      refine ⟨⟨_, rfl, ?_⟩, hB⟩
      have ho := HO.out
      rw [List.take_of_length_le (by rw [HL.out]; omega)] at ho
      rcases ho.2 with ⟨h, _⟩ | ⟨g, cap, cur, rfl, h1, h2, h3, h4, h5, h6⟩
      · omega
      · refine ⟨g, cap, cur.toList.drop (8 * 16 * 1), by rw [HL.out]; rfl, ?_⟩
        unfold Blk
        rw [h2, ← h6, List.take_append_drop]

theorem Wd.at {w : World} {v : Value} {l : List Nat} (h : Wd w v l) : ∃ b c, v = .slice (some ⟨b, 0, none⟩) l.length c ∧ b < w.heap.size ∧ ∀ k, k < l.length → w.cell? ⟨b, k, none⟩ = some (.int .u64 ((l.getD k 0 : Nat) : Int)) := by
  obtain ⟨b, c, rest, h1, h2⟩ := h
  refine ⟨b, c, h1, h2.lt, fun k hk => h2.cell (by rw [List.getElem?_append_left (by simpa using hk)]; simp [List.getElem?_eq_getElem hk, u64, List.getD])⟩

set_option maxRecDepth 100000 in
set_option maxHeartbeats 2000000 in
theorem same_words (w : World) (u v : Value) (xs ys : List Nat) (hu : Wd w u xs) (hv : Wd w v ys) (hx : xs.length = 128) (hy : ys.length = 128) :
    Calls Tryz.prog 39 #[u, v] w
      fun e w' => e = .returned (.bool (decide (xs = ys))) ∧ Below w.heap.size w w' := by
  obtain ⟨a, ca, rfl, a1, a2⟩ := hu.at
  obtain ⟨b, cb, rfl, b1, b2⟩ := hv.at
  rw [hx] at a2 ⊢
  rw [hy] at b2 ⊢
  have HA := Lib.hid a2
  have HB := Lib.hid b2
  have HX := Lib.hid hx
  have HY := Lib.hid hy
  obtain ⟨res, hres⟩ : ∃ res, decide (xs = ys) = res := ⟨_, rfl⟩
  have HR := Lib.hid hres
  rw [hres]
  clear hu hv a2 b2 hx hy hres
  go_enter Tryz.func39, Tryz.ntmps39
  go_wp2_with fail
  go_loopw [5] (fun i wr => ∃ k : Nat, k ≤ 128 ∧ i = .int .i64 k ∧ (∀ j, j < k → xs.getD j 0 = ys.getD j 0) ∧ Below w.heap.size w wr) (fun i _ => 128 - (intOf i).toNat)
  case atStart => exact ⟨0, by omega, rfl, fun j hj => by omega, Below.refl _ _⟩
  case round =>
    obtain ⟨k, hk, rfl, hno, hBl⟩ := hrel
    have HNO := Lib.hid hno
    clear hno
    by_cases hk8 : k < 128
    · have c0 := (hBl.cell (p := ⟨a, k, none⟩) a1).trans (HA.out k hk8)
      have d0 := (hBl.cell (p := ⟨b, k, none⟩) b1).trans (HB.out k hk8)
      obtain ⟨x, hx⟩ : ∃ x, xs.getD k 0 = x := ⟨_, rfl⟩
      obtain ⟨y, hy⟩ : ∃ x, ys.getD k 0 = x := ⟨_, rfl⟩
      rw [hx] at c0
      rw [hy] at d0
      have HXk := Lib.hid hx
      have HYk := Lib.hid hy
      clear hx hy
      by_cases e1 : x = y
      · subst e1
        go_wp2_with fail
        go_quiet (fail)
        go_wp2
        go_roundw
        case rel => exact ⟨k + 1, by omega, by simp, fun j hj => by rcases Nat.lt_succ_iff_lt_or_eq.1 hj with h | rfl; · exact HNO.out j h
                                                                    · rw [HXk.out, HYk.out], hBl.trans (below_of_drewN _ _ |>.mono hBl.size)⟩
        case measure => simp [intOf]; omega
      · have f1 : ((x : Int) == (y : Int)) = false := beq_eq_false_iff_ne.2 (fun h => e1 (by exact_mod_cast h))
        have hr : res = false := by
          rw [← HR.out, decide_eq_false_iff_not]
          intro h
          rw [h] at HXk
          exact e1 (HXk.out.symm.trans HYk.out)
        clear e1
        go_wp2_with fail
        go_quiet (fail)
        go_wp2
        go_ret
        exact ⟨by rw [hr]; rfl, hBl.trans (below_of_drewN _ _ |>.mono hBl.size)⟩
    · obtain rfl : k = 128 := by omega
      go_wp2
      go_ret
      refine ⟨?_, hBl⟩
      have hr : res = true := by
        rw [← HR.out, decide_eq_true_iff]
        refine List.ext_getElem (by rw [HX.out, HY.out]) (fun j h1 h2 => ?_)
        have := HNO.out j (by rw [HX.out] at h1; exact h1)
        rwa [List.getD, List.getElem?_eq_getElem h1, List.getD, List.getElem?_eq_getElem h2] at this
      rw [hr]; rfl
end Go.Proofs.YtgaififhhffpfaaGreatDoor
