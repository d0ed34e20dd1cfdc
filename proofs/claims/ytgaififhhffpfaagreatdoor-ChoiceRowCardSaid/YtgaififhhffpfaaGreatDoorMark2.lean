/- walk.Mark. -/
import Derived.Test.YtgaififhhffpfaaGreatDoorMark
import Derived.Test.YtgaififhhffpfaaGreatDoorRegIn
namespace Go.Proofs.YtgaififhhffpfaaGreatDoor
open Go.RowKit Go.Shelf

/-- The words behind the marking of the first k of the places l. -/
def markTo (hosts : List Nat) (l : List (Int × Int)) (written : Bool) (mem : List Nat) : Nat → List Nat
  | 0 => mem
  | k + 1 => let m := markTo hosts l written mem k
    let x := l.getD k (0, 0)
    wr hosts m x.1 x.2 (usedW ((rd hosts m x.1 x.2).getD 0) (written && decide (k + 1 = l.length)))
def markMem (hosts : List Nat) (l : List (Int × Int)) (written : Bool) (mem : List Nat) : List Nat := markTo hosts l written mem l.length
/-- are all the places there? -/
def allIn (hosts mem : List Nat) (l : List (Int × Int)) : Bool := !(l.any fun x => (rd hosts mem x.1 x.2).isNone)

theorem Kept.undrew {B : Nat} {S : Nat → Prop} {a w : World} {n : Nat} (h : Kept B S (a.drewN n) w) : Kept B S a w := ⟨h.os, h.tape, h.output, h.size, h.block⟩
theorem used_open (w : World) (v : Nat) (b : Bool) (u : Nat) (hu : usedW v b = u) (hv : v < 2 ^ 64) :
    Calls Tryz.prog 154 #[.int .u64 (v : Int), .bool b] w fun e w' => e = .returned (.int .u64 (u : Int)) ∧ w = w' := hu ▸ used_any w v b hv

set_option maxRecDepth 100000 in
set_option maxHeartbeats 1000000 in
theorem mark_any (w : World) (p fb n : Nat) (hosts mem : List Nat) (a : Option Addr) (P : Path) (c : Nat) (written : Bool) (M : GM w p fb hosts n mem) (hs : Sl w a P.ats) (hsm : P.ats.length ≤ 1000) :
    Calls Tryz.prog 126 #[.pointer (some ⟨p, 0, none⟩), .agg #[.slice a P.ats.length c, .int .i64 P.g, .bool P.r.w, .bool P.r.u, .bool P.r.x, .bool P.large, .bool P.dirty], .bool written] w
      fun e w' => e = .returned (.bool (allIn hosts mem P.ats)) ∧ GM w' p fb hosts n (if allIn hosts mem P.ats then markMem hosts P.ats written mem else mem) ∧ Kept w.heap.size (fun k => k = fb) w w' := by
  obtain ⟨ats, g, r, lg, d⟩ := P
  dsimp only at *
  obtain ⟨w0, hw0⟩ : ∃ w0, (w.alloc (.cells #[.pointer (some ⟨p, 0, none⟩)] 27)).alloc (.cells #[.slice a ats.length c, .int .i64 g, .bool r.w, .bool r.u, .bool r.x, .bool lg, .bool d] 42) = w0 := ⟨_, rfl⟩
  have B0 : Below w.heap.size w w0 := by rw [← hw0]; exact ((Below.refl _ w).alloc (Nat.le_refl _) _).alloc (by simp) _
  have h2 : Blk w0 w.heap.size 27 [.pointer (some ⟨p, 0, none⟩)] := by rw [← hw0]; exact (Blk.new w _ _).alloc _
  have h3 : Blk w0 (w.heap.size + 1) 42 [.slice a ats.length c, .int .i64 g, .bool r.w, .bool r.u, .bool r.x, .bool lg, .bool d] := by rw [← hw0]; have := Blk.new (w.alloc (.cells #[.pointer (some ⟨p, 0, none⟩)] 27)) 42 [.slice a ats.length c, .int .i64 g, .bool r.w, .bool r.u, .bool r.x, .bool lg, .bool d]; simpa using this
  have hcon := contains_any w0 a ats c 153 #[.pointer (some ⟨w.heap.size, 0, none⟩)] (fun x => (rd hosts mem x.1 x.2).isNone) (hs.past B0) (by omega) (enters_of Tryz.func153 (by kernel_rfl) rfl)
    (fun x _ W hW => none_any W w.heap.size p fb n hosts mem x ((h2.past hW).cell rfl) ((M.past B0).past hW))
  have M0 := M.past B0
  have S0 := hs.past B0
  have lf := M.row.lt
  obtain ⟨len, hl⟩ : ∃ len, ats.length = len := ⟨_, rfl⟩
  obtain ⟨res, hres⟩ : ∃ res, (ats.any fun x => (rd hosts mem x.1 x.2).isNone) = res := ⟨_, rfl⟩
  unfold allIn markMem
  rw [hl] at hw0 hcon hsm h3 ⊢
  rw [hres] at hcon ⊢
  have HC := Lib.hid hcon
  have HW := Lib.hid hw0
  have HL := Lib.hid hl
  clear hcon hw0 hs M hl
  cases res with
  | true =>
    clear h2 h3
    simp only [Bool.not_true, Bool.false_eq_true, if_false]
    go_enter Tryz.func126, Tryz.ntmps126
    go_wp2_with (go_at_call 99; rw [HW.out]; refine HC.out.mono ?_; rintro e w' ⟨rfl, hB⟩)
    go_ret
    exact ⟨rfl, M0.past hB, Kept.of_below (B0.trans (hB.mono B0.size))⟩
  | false =>
    simp only [Bool.not_false, if_true]
    have hin : ∀ k, k < len → (rd hosts mem (ats.getD k (0, 0)).1 (ats.getD k (0, 0)).2).isSome = true := by
      intro k hk
      have h := List.any_eq_false.1 hres (ats.getD k (0, 0)) (by rw [getD_at _ (by rw [HL.out]; exact hk)]; exact List.getElem_mem _)
      cases ho : rd hosts mem (ats.getD k (0, 0)).1 (ats.getD k (0, 0)).2 with
      | none => rw [ho] at h; simp at h
      | some v => rfl
    have HIN := Lib.hid hin
    clear hin hres
    go_enter Tryz.func126, Tryz.ntmps126
    go_wp2_with (first | (go_at_call 99; rw [HW.out]; refine HC.out.mono ?_; rintro e W ⟨rfl, hB⟩; have z0 := (h3.past hB).cell (k := 0) rfl))
    have z1 := (h2.past hB)
    have z2 := (h3.past hB)
    have M1 := M0.past hB
    have S1 := S0.past hB
    have B1 := B0.trans (hB.mono B0.size)
    clear h2 h3 M0 S0 hB B0 HC HW z0
    go_loopw [20] (fun i wr => ∃ k : Nat, k ≤ len ∧ i = .int .i64 k ∧ GM wr p fb hosts n (markTo hosts ats written mem k) ∧ Sl wr a ats ∧ Blk wr w.heap.size 27 [.pointer (some ⟨p, 0, none⟩)] ∧
      Blk wr (w.heap.size + 1) 42 [.slice a len c, .int .i64 g, .bool r.w, .bool r.u, .bool r.x, .bool lg, .bool d] ∧ Kept w.heap.size (fun k => k = fb) w wr) (fun i _ => len - (intOf i).toNat)
    case atStart => exact ⟨0, by omega, rfl, M1, S1, z1, z2, Kept.of_below B1⟩
    case round =>
      obtain ⟨k, hk, rfl, MR, SR, y1, y2, KR⟩ := hrel
      clear M1 S1 z1 z2 B1
      by_cases hkl : k < len
      · obtain ⟨b, rest, rfl, hb⟩ : ∃ b rest, a = some ⟨b, 0, none⟩ ∧ Blk wr b 53 (atCells ats ++ rest) := by
          rcases SR with ⟨_, h⟩ | h
          · rw [h] at HL; have := HL.out; simp at this; omega
          · exact h
        obtain ⟨x, hx⟩ : ∃ x, ats.getD k (0, 0) = x := ⟨_, rfl⟩
        obtain ⟨c0, c1⟩ := Sl.at hb k (by rw [HL.out]; exact hkl)
        rw [hx] at c0 c1
        obtain ⟨mk, hmk⟩ : ∃ mk, markTo hosts ats written mem k = mk := ⟨_, rfl⟩
        rw [hmk] at MR
        obtain ⟨v, hv⟩ : ∃ v, (rd hosts mk x.1 x.2).getD 0 = v := ⟨_, rfl⟩
        have hvb : v < 2 ^ 64 := by rw [← hv]; exact rd_lt (hosts := hosts) MR.bd x.1 x.2
        obtain ⟨u, hu⟩ : ∃ u, usedW v (written && decide (k + 1 = len)) = u := ⟨_, rfl⟩
        have hub : u < 2 ^ 64 := by rw [← hu]; exact usedW_lt hvb _
        have hnext : markTo hosts ats written mem (k + 1) = Go.Proofs.YtgaififhhffpfaaGreatDoor.wr hosts mk x.1 x.2 u := by
          simp only [markTo, hmk, hx, hv, HL.out, hu]
        have HN := Lib.hid hnext
        obtain ⟨x1, x2⟩ := x
        dsimp only at *
        obtain ⟨bl, hbl⟩ : ∃ bl, (written && decide (k + 1 = len)) = bl := ⟨_, rfl⟩
        rw [hbl] at hu
        have husd := fun W => used_open W v bl u hu hvb
        have hget : ∀ W, GM W p fb hosts n mk → Calls Tryz.prog 21 #[.pointer (some ⟨p, 0, none⟩), .int .i64 x1, .int .i64 x2] W
            fun e w' => (∃ b, e = .returned (.tuple #[.int .u64 (v : Int), .bool b])) ∧ W = w' := fun W hM => (gm_get hM x1 x2 _ rfl).mono (fun e w' ⟨h1, h2⟩ => ⟨⟨(rd hosts mk x1 x2).isSome, by rw [h1, hv]⟩, h2⟩)
        have HG := Lib.hid hget
        have HU := Lib.hid husd
        have y1c := y1.cell (k := 0) rfl
        have y2c := y2.cell (k := 0) rfl
        have y1l := y1.lt
        have y2l := y2.lt
        clear hnext hget husd hu hv hmk hx hk
        have hcase : (written = false ∧ bl = false) ∨ (written = true ∧ bl = true ∧ k + 1 = len) ∨ (written = true ∧ bl = false ∧ ¬ k + 1 = len) := by
          rw [← hbl]
          cases written
          · exact .inl ⟨rfl, rfl⟩
          · by_cases h : k + 1 = len
            · exact .inr (.inl ⟨rfl, by simp [h], h⟩)
            · exact .inr (.inr ⟨rfl, by simp [h], h⟩)
        clear hbl
        go_wp2_with (first | (go_at_call 21; refine (HG.out _ ?_).mono ?_; (exact MR.past ((Below.refl _ _).alloc (Nat.le_refl _) _)); rintro e W2 ⟨⟨isb, rfl⟩, rfl⟩))
        have bA : Below wr.heap.size wr (wr.alloc (.cells #[.int .i64 x1, .int .i64 x2] 53)) := (Below.refl _ _).alloc (Nat.le_refl _) _
        have hA := Blk.new wr 53 [.int .i64 x1, .int .i64 x2]
        have MA := MR.past bA
        have SA := SR.past bA
        have y1A := y1.past bA
        have y2A := y2.past bA
        have KA := KR.trans (Kept.of_below (bA.mono KR.size))
        obtain ⟨wa, hwa⟩ : ∃ wa, wr.alloc (.cells #[.int .i64 x1, .int .i64 x2] 53) = wa := ⟨_, rfl⟩
        rw [hwa]
        rw [hwa] at bA MA SA y1A y2A KA
        have hA' : Blk wa wr.heap.size 53 [.int .i64 x1, .int .i64 x2] := by rw [← hwa]; exact hA
        obtain ⟨tb, htb⟩ : ∃ tb, wr.heap.size = tb := ⟨_, rfl⟩
        rw [htb] at hA' ⊢
        clear hwa hA htb bA y1c y2c y1l y2l KR SR MR y1 y2 hb c0 c1 HG
        have a0 := hA'.cell (k := 0) rfl
        have a1 := hA'.cell (k := 1) rfl
        have d0 := y1A.cell (k := 0) rfl
        have d1 := y2A.cell (k := 0) rfl
        have HC := Lib.hid hcase
        have fin : ∀ wx, GM wx p fb hosts n (Go.Proofs.YtgaififhhffpfaaGreatDoor.wr hosts mk x1 x2 u) → Kept wa.heap.size (fun k => k = fb) wa wx → (∃ k' : Nat, k' ≤ len ∧ Value.int .i64 ((k : Int) + 1) = .int .i64 k' ∧ GM wx p fb hosts n (markTo hosts ats written mem k') ∧ Sl wx (some ⟨b, 0, none⟩) ats ∧ Blk wx w.heap.size 27 [.pointer (some ⟨p, 0, none⟩)] ∧
            Blk wx (w.heap.size + 1) 42 [.slice (some ⟨b, 0, none⟩) len c, .int .i64 g, .bool r.w, .bool r.u, .bool r.x, .bool lg, .bool d] ∧ Kept w.heap.size (fun k => k = fb) w wx) := by
          intro wx hM hK
          refine ⟨k + 1, by omega, by simp, by rw [HN.out]; exact hM, MA.keptS SA hK, MA.keptB y1A (by decide) hK, MA.keptB y2A (by decide) hK, KA.trans (hK.mono KA.size (fun _ _ h => h))⟩
        have HF := Lib.hid fin
        clear fin hcase KA
        rcases HC.out with ⟨rfl, rfl⟩ | ⟨rfl, rfl, hkk⟩ | ⟨rfl, rfl, hkk⟩
        · refine wp_region_mine (fun w' => w'.cell? ⟨tb, 0, none⟩ = some (.int .i64 x1) ∧ w'.cell? ⟨tb, 1, none⟩ = some (.int .i64 x2) ∧ w'.cell? ⟨w.heap.size, 0, none⟩ = some (.pointer (some ⟨p, 0, none⟩)) ∧ w'.cell? ⟨w.heap.size + 1, 0, none⟩ = some (.slice (some ⟨b, 0, none⟩) len c)) (by kernel_rfl) (by go_keep) (fun hHeld => ?_)
          refine' wpAnyH_take (i := 0) (v := _) rfl (by kernel_rfl) (by kernel_rfl) (by kernel_rfl) (fun _ _ _ h => h) (Or.inl ⟨by with_unfolding_all rfl, ?_⟩) (by assumption) ?_
          rotate_left
          focus (intro w hSw; (try dsimp only at hSw); go_simp; try (with_reducible rfl))
          try simp only [List.getElem_toArray, List.getElem_cons_zero, Act.put, List.setIfInBounds_toArray, List.set_cons_zero, List.set_cons_succ]
          refine' wpAnyH_take (i := 1) (v := _) rfl (by kernel_rfl) (by kernel_rfl) (by kernel_rfl) (fun _ _ _ h => h) (Or.inl ⟨by with_unfolding_all rfl, ?_⟩) (by assumption) ?_
          rotate_left
          focus (intro w hSw; (try dsimp only at hSw); go_simp; try (with_reducible rfl))
          try simp only [List.getElem_toArray, List.getElem_cons_zero, List.getElem_cons_succ, Act.put, List.setIfInBounds_toArray, List.set_cons_zero, List.set_cons_succ]
          refine' wpAnyH_take (i := 2) (v := _) rfl (by kernel_rfl) (by kernel_rfl) (by kernel_rfl) (fun _ _ _ h => h) (Or.inl ⟨by with_unfolding_all rfl, ?_⟩) (by assumption) ?_
          rotate_left
          focus (intro w hSw; (try dsimp only at hSw); go_simp; try (with_reducible rfl))
          try simp only [List.getElem_toArray, List.getElem_cons_zero, List.getElem_cons_succ, Act.put, List.setIfInBounds_toArray, List.set_cons_zero, List.set_cons_succ]
          refine' wpAnyH_take (i := 3) (v := _) rfl (by kernel_rfl) (by kernel_rfl) (by kernel_rfl) (fun _ _ _ h => h) (Or.inl ⟨by with_unfolding_all rfl, ?_⟩) (by assumption) ?_
          rotate_left
          focus (intro w hSw; (try dsimp only at hSw); go_simp; try (with_reducible rfl))
          try simp only [List.getElem_toArray, List.getElem_cons_zero, List.getElem_cons_succ, Act.put, List.setIfInBounds_toArray, List.set_cons_zero, List.set_cons_succ]
          refine' wpAnyH_take (i := 4) (v := _) rfl (by kernel_rfl) (by kernel_rfl) (by kernel_rfl) (fun _ _ _ h => h) (Or.inl ⟨by with_unfolding_all rfl, ?_⟩) (by assumption) ?_
          rotate_left
          focus (intro w hSw; (try dsimp only at hSw); go_simp; try (with_reducible rfl))
          try simp only [List.getElem_toArray, List.getElem_cons_zero, List.getElem_cons_succ, Act.put, List.setIfInBounds_toArray, List.set_cons_zero, List.set_cons_succ]
          refine' wpAnyH_take (i := 5) (v := _) rfl (by kernel_rfl) (by kernel_rfl) (by kernel_rfl) (fun _ _ _ h => h) (Or.inl ⟨by with_unfolding_all rfl, ?_⟩) (by assumption) ?_
          rotate_left
          focus (intro w hSw; (try dsimp only at hSw); go_simp; try (with_reducible rfl))
          try simp only [List.getElem_toArray, List.getElem_cons_zero, List.getElem_cons_succ, Act.put, List.setIfInBounds_toArray, List.set_cons_zero, List.set_cons_succ]
          refine' wpAnyH_take (i := 6) (v := _) rfl (by kernel_rfl) (by kernel_rfl) (by kernel_rfl) (fun _ _ _ h => h) (Or.inl ⟨by with_unfolding_all rfl, ?_⟩) (by assumption) ?_
          rotate_left
          focus (intro w hSw; (try dsimp only at hSw); go_simp; try (with_reducible rfl))
          try simp only [List.getElem_toArray, List.getElem_cons_zero, List.getElem_cons_succ, Act.put, List.setIfInBounds_toArray, List.set_cons_zero, List.set_cons_succ]
          refine' wpAnyH_take (i := 7) (v := _) rfl (by kernel_rfl) (by kernel_rfl) (by kernel_rfl) (fun _ _ _ h => h) (Or.inl ⟨by with_unfolding_all rfl, ?_⟩) (by assumption) ?_
          rotate_left
          focus (intro w hSw; (try dsimp only at hSw); go_simp; try (with_reducible rfl))
          try simp only [List.getElem_toArray, List.getElem_cons_zero, List.getElem_cons_succ, Act.put, List.setIfInBounds_toArray, List.set_cons_zero, List.set_cons_succ]
          refine wpAnyH_take (i := 8) (v := undef) rfl (by kernel_rfl) (by kernel_rfl) (by kernel_rfl) (fun _ _ _ h => h) (Or.inr ⟨by with_unfolding_all rfl, rfl⟩) (by assumption) ?_
          try simp only [List.getElem_toArray, List.getElem_cons_zero, List.getElem_cons_succ, Act.put, List.setIfInBounds_toArray, List.set_cons_zero, List.set_cons_succ]
          refine wpAnyH_take (i := 9) (v := undef) rfl (by kernel_rfl) (by kernel_rfl) (by kernel_rfl) (fun _ _ _ h => h) (Or.inr ⟨by with_unfolding_all rfl, rfl⟩) (by assumption) ?_
          try simp only [List.getElem_toArray, List.getElem_cons_zero, List.getElem_cons_succ, Act.put, List.setIfInBounds_toArray, List.set_cons_zero, List.set_cons_succ]
          refine wpAnyH_take (i := 10) (v := undef) rfl (by kernel_rfl) (by kernel_rfl) (by kernel_rfl) (fun _ _ _ h => h) (Or.inr ⟨by with_unfolding_all rfl, rfl⟩) (by assumption) ?_
          try simp only [List.getElem_toArray, List.getElem_cons_zero, List.getElem_cons_succ, Act.put, List.setIfInBounds_toArray, List.set_cons_zero, List.set_cons_succ]
          refine wpAnyH_take (i := 11) (v := undef) rfl (by kernel_rfl) (by kernel_rfl) (by kernel_rfl) (fun _ _ _ h => h) (Or.inr ⟨by with_unfolding_all rfl, rfl⟩) (by assumption) ?_
          try simp only [List.getElem_toArray, List.getElem_cons_zero, List.getElem_cons_succ, Act.put, List.setIfInBounds_toArray, List.set_cons_zero, List.set_cons_succ]
          refine wpAnyH_take (i := 12) (v := undef) rfl (by kernel_rfl) (by kernel_rfl) (by kernel_rfl) (fun _ _ _ h => h) (Or.inr ⟨by with_unfolding_all rfl, rfl⟩) (by assumption) ?_
          try simp only [List.getElem_toArray, List.getElem_cons_zero, List.getElem_cons_succ, Act.put, List.setIfInBounds_toArray, List.set_cons_zero, List.set_cons_succ]
          refine wpAnyH_take (i := 13) (v := undef) rfl (by kernel_rfl) (by kernel_rfl) (by kernel_rfl) (fun _ _ _ h => h) (Or.inr ⟨by with_unfolding_all rfl, rfl⟩) (by assumption) ?_
          try simp only [List.getElem_toArray, List.getElem_cons_zero, List.getElem_cons_succ, Act.put, List.setIfInBounds_toArray, List.set_cons_zero, List.set_cons_succ]
          refine' wpAnyH_take (i := 14) (v := _) rfl (by kernel_rfl) (by kernel_rfl) (by kernel_rfl) (fun _ _ _ h => h) (Or.inl ⟨by with_unfolding_all rfl, ?_⟩) (by assumption) ?_
          rotate_left
          focus (intro w hSw; (try dsimp only at hSw); go_simp; try (with_reducible rfl))
          try simp only [List.getElem_toArray, List.getElem_cons_zero, List.getElem_cons_succ, Act.put, List.setIfInBounds_toArray, List.set_cons_zero, List.set_cons_succ]
          refine wpAnyH_ready (rs := [15]) (by kernel_rfl) (by simp) ?_
          refine AllReadyH.cons rfl (fun K hK => ?_) AllReadyH.nil
          rw [if_pos (by with_unfolding_all rfl)]
          go_simp
          go_at_call 154
          refine (HU.out _).mono ?_
          rintro e W3 ⟨rfl, rfl⟩
          refine hK.out _ _ (by (try dsimp only); go_keep) (fun hHeld => ?_)
          clear hK K
          try simp only [List.getElem_toArray, List.getElem_cons_zero, List.getElem_cons_succ, Act.put, List.setIfInBounds_toArray, List.set_cons_zero, List.set_cons_succ]
          refine wpAnyH_ready (rs := [16]) (by kernel_rfl) (by simp) ?_
          refine AllReadyH.cons rfl (fun K hK => ?_) AllReadyH.nil
          rw [if_pos (by with_unfolding_all rfl)]
          go_simp
          go_at_call 42
          refine (gm_set (MA.past (below_of_drewN _ 1)) x1 x2 u hub).mono ?_
          rintro e W3 ⟨rfl, hM3, hK3', hS3⟩
          have hK3 := hK3'.undrew
          have f0 := (MA.keptB hA' (by decide) hK3).cell (k := 0) rfl
          have f1 := (MA.keptB hA' (by decide) hK3).cell (k := 1) rfl
          have f2 := (MA.keptB y1A (by decide) hK3).cell (k := 0) rfl
          have f3 := (MA.keptB y2A (by decide) hK3).cell (k := 0) rfl
          refine hK.out _ _ (by (try dsimp only); go_keep) (fun hHeld => ?_)
          clear hK K
          try simp only [List.getElem_toArray, List.getElem_cons_zero, List.getElem_cons_succ, Act.put, List.setIfInBounds_toArray, List.set_cons_zero, List.set_cons_succ]
          refine wpAnyH_done (by kernel_rfl) ?_ _
          refine OnlyN_normal ?_
          all_goals go_wp2
          all_goals go_roundw
          case rel => exact HF.out _ hM3 hK3
          case measure => simp [intOf]; omega
        · have hE0 : IntKind.i64.wrap ((len : Int) - 1) = (len : Int) - 1 := by rw [IntKind.wrap_i64]; omega
          have hE : ((k : Int) == IntKind.i64.wrap ((len : Int) - 1)) = true := by rw [hE0]; first | (rw [beq_iff_eq]; omega) | (rw [beq_eq_false_iff_ne]; omega)
          have HE := Lib.hid hE
          clear hE hE0
          go_region_held3 (fun w' => w'.cell? ⟨tb, 0, none⟩ = some (.int .i64 x1) ∧ w'.cell? ⟨tb, 1, none⟩ = some (.int .i64 x2) ∧ w'.cell? ⟨w.heap.size, 0, none⟩ = some (.pointer (some ⟨p, 0, none⟩)) ∧ w'.cell? ⟨w.heap.size + 1, 0, none⟩ = some (.slice (some ⟨b, 0, none⟩) len c))
            (go_keep) (first
              | (go_at_call 154; rw [HE.out]; refine (HU.out _).mono ?_; rintro e W3 ⟨rfl, rfl⟩)
              | (go_at_call 42; refine (gm_set (MA.past (below_of_drewN _ 1)) x1 x2 u hub).mono ?_; rintro e W3 ⟨rfl, hM3, hK3', hS3⟩; have hK3 := hK3'.undrew; have f0 := (MA.keptB hA' (by decide) hK3).cell (k := 0) rfl; have f1 := (MA.keptB hA' (by decide) hK3).cell (k := 1) rfl; have f2 := (MA.keptB y1A (by decide) hK3).cell (k := 0) rfl; have f3 := (MA.keptB y2A (by decide) hK3).cell (k := 0) rfl))
          all_goals go_wp2
          all_goals go_roundw
          case rel => exact HF.out _ hM3 hK3
          case measure => simp [intOf]; omega
        · have hE0 : IntKind.i64.wrap ((len : Int) - 1) = (len : Int) - 1 := by rw [IntKind.wrap_i64]; omega
          have hE : ((k : Int) == IntKind.i64.wrap ((len : Int) - 1)) = false := by rw [hE0]; first | (rw [beq_iff_eq]; omega) | (rw [beq_eq_false_iff_ne]; omega)
          have HE := Lib.hid hE
          clear hE hE0
          go_region_held3 (fun w' => w'.cell? ⟨tb, 0, none⟩ = some (.int .i64 x1) ∧ w'.cell? ⟨tb, 1, none⟩ = some (.int .i64 x2) ∧ w'.cell? ⟨w.heap.size, 0, none⟩ = some (.pointer (some ⟨p, 0, none⟩)) ∧ w'.cell? ⟨w.heap.size + 1, 0, none⟩ = some (.slice (some ⟨b, 0, none⟩) len c))
            (go_keep) (first
              | (go_at_call 154; rw [HE.out]; refine (HU.out _).mono ?_; rintro e W3 ⟨rfl, rfl⟩)
              | (go_at_call 42; refine (gm_set (MA.past (below_of_drewN _ 1)) x1 x2 u hub).mono ?_; rintro e W3 ⟨rfl, hM3, hK3', hS3⟩; have hK3 := hK3'.undrew; have f0 := (MA.keptB hA' (by decide) hK3).cell (k := 0) rfl; have f1 := (MA.keptB hA' (by decide) hK3).cell (k := 1) rfl; have f2 := (MA.keptB y1A (by decide) hK3).cell (k := 0) rfl; have f3 := (MA.keptB y2A (by decide) hK3).cell (k := 0) rfl))
          all_goals go_wp2
          all_goals go_roundw
          case rel => exact HF.out _ hM3 hK3
          case measure => simp [intOf]; omega
      · obtain rfl : k = len := by omega
        go_wp2
        go_ret
        exact ⟨rfl, MR, KR⟩
end Go.Proofs.YtgaififhhffpfaaGreatDoor
