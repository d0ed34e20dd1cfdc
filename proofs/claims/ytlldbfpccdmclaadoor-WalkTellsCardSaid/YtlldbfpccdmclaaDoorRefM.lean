/- The document's memory: silhouetteref01.Mem, silhouetteref03.Map, silhouetteref07.Mem: Get, Set, Frames. -/
import Derived.Test.YtlldbfpccdmclaaDoorRefE
import Derived.Test.YtlldbfpccdmclaaDoorMem
namespace Go.Proofs.YtlldbfpccdmclaaDoor
open Go.RowKit

structure RHost (w : World) (hp wb n : Nat) (mem : List Nat) : Prop where
  hdr : Blk w hp 134 [.slice (some ⟨wb, 0, none⟩) (8 * n) (8 * n)]
  row : Blk w wb 36 (mem.map u64)
  len : mem.length = 8 * n
  small : n ≤ 256
  bd : ∀ v, v ∈ mem → v < 2 ^ 64
structure RGuest (w : World) (p mp sb hp : Nat) (hosts : List Nat) (cap n : Nat) : Prop where
  hdr : Blk w p 132 [.pointer (some ⟨hp, 0, none⟩), .pointer (some ⟨mp, 0, none⟩)]
  gm : Blk w mp 136 [.slice (some ⟨sb, 0, none⟩) hosts.length cap]
  row : ∃ sp, Blk w sb 3 (hosts.map i64 ++ sp)
  len : hosts.length ≤ 64
  bd : ∀ h, h ∈ hosts → h < n
/-- The document's guest memory at p, whose words lie in block wb. -/
def RM (w : World) (p wb : Nat) (hosts : List Nat) (n : Nat) (mem : List Nat) : Prop := ∃ hp mp sb cap, RHost w hp wb n mem ∧ RGuest w p mp sb hp hosts cap n
theorem RM.past {w w' : World} {p wb n : Nat} {hosts mem : List Nat} (h : RM w p wb hosts n mem) (hb : Below w.heap.size w w') : RM w' p wb hosts n mem := by
  obtain ⟨hp, mp, sb, cap, H, G⟩ := h
  exact ⟨hp, mp, sb, cap, ⟨H.hdr.past hb, H.row.past hb, H.len, H.small, H.bd⟩, ⟨G.hdr.past hb, G.gm.past hb, G.row.imp fun _ h => h.past hb, G.len, G.bd⟩⟩
theorem RM.bd {w : World} {p wb n : Nat} {hosts mem : List Nat} (h : RM w p wb hosts n mem) : ∀ v, v ∈ mem → v < 2 ^ 64 := by
  obtain ⟨hp, mp, sb, cap, H, G⟩ := h; exact H.bd
theorem RM.row {w : World} {p wb n : Nat} {hosts mem : List Nat} (h : RM w p wb hosts n mem) : Blk w wb 36 (mem.map u64) := by
  obtain ⟨hp, mp, sb, cap, H, G⟩ := h; exact H.row

theorem rframes_any (w : World) (hp wb n : Nat) (mem : List Nat) (H : RHost w hp wb n mem) :
    Calls Tryd.prog 89 #[.pointer (some ⟨hp, 0, none⟩)] w fun e w' => e = .returned (.int .i64 (n : Int)) ∧ w = w' := by
  have hc := H.hdr.cell (k := 0) rfl
  have hn := H.small
  obtain ⟨L, hL⟩ : ∃ L, 8 * n = L := ⟨_, rfl⟩
  rw [hL] at hc
  have hq : (L : Int).tdiv 8 = (n : Int) := by rw [Int.tdiv_eq_ediv_of_nonneg (by omega)]; omega
  clear H hL
  go_enter Tryd.func89, Tryd.ntmps89
  go_wp2
  go_ret
  exact ⟨by rw [← hq]; rfl, rfl⟩
theorem ris_any (w : World) (hp wb n : Nat) (mem : List Nat) (f i : Int) (H : RHost w hp wb n mem) :
    Calls Tryd.prog 88 #[.pointer (some ⟨hp, 0, none⟩), .int .i64 f, .int .i64 i] w fun e w' => e = .returned (.bool (decide (0 ≤ f ∧ f < (n : Int) ∧ 0 ≤ i ∧ i < 8))) ∧ w = w' := by
  have hf := rframes_any w hp wb n mem H
  have HF := Lib.hid hf
  clear hf H
  obtain ⟨b, hb⟩ : ∃ b, decide (0 ≤ f ∧ f < (n : Int) ∧ 0 ≤ i ∧ i < 8) = b := ⟨_, rfl⟩
  rw [hb]
  have HB := Lib.hid hb
  clear hb
  by_cases h1 : 0 ≤ f
  · by_cases h2 : f < (n : Int)
    · by_cases h3 : 0 ≤ i
      · by_cases h4 : i < 8
        · go_enter Tryd.func88, Tryd.ntmps88
          go_wp2_with (go_at_call 89; (with_reducible refine HF.out.mono ?_); rintro e w' ⟨rfl, rfl⟩)
          go_ret
          exact ⟨by rw [← HB.out, decide_eq_true (show 0 ≤ f ∧ f < (n : Int) ∧ 0 ≤ i ∧ i < 8 by omega)]; rfl, rfl⟩
        · have h4' : 8 ≤ i := by omega
          clear h4
          go_enter Tryd.func88, Tryd.ntmps88
          go_wp2_with (go_at_call 89; (with_reducible refine HF.out.mono ?_); rintro e w' ⟨rfl, rfl⟩)
          go_ret
          exact ⟨(show Ending.returned (Value.bool (decide (i < 8))) = Ending.returned (.bool b) by rw [← HB.out, decide_eq_false (show ¬ i < 8 by omega), decide_eq_false (show ¬ (0 ≤ f ∧ f < (n : Int) ∧ 0 ≤ i ∧ i < 8) by omega)]), rfl⟩
      · have h3' : i < 0 := by omega
        clear h3
        go_enter Tryd.func88, Tryd.ntmps88
        go_wp2_with (go_at_call 89; (with_reducible refine HF.out.mono ?_); rintro e w' ⟨rfl, rfl⟩)
        go_ret
        exact ⟨by rw [← HB.out, decide_eq_false (show ¬ (0 ≤ f ∧ f < (n : Int) ∧ 0 ≤ i ∧ i < 8) by omega)]; rfl, rfl⟩
    · have h2' : (n : Int) ≤ f := by omega
      clear h2
      go_enter Tryd.func88, Tryd.ntmps88
      go_wp2_with (go_at_call 89; (with_reducible refine HF.out.mono ?_); rintro e w' ⟨rfl, rfl⟩)
      go_ret
      exact ⟨by rw [← HB.out, decide_eq_false (show ¬ (0 ≤ f ∧ f < (n : Int) ∧ 0 ≤ i ∧ i < 8) by omega)]; rfl, rfl⟩
  · have h1' : f < 0 := by omega
    clear h1
    go_enter Tryd.func88, Tryd.ntmps88
    go_wp2_with (go_at_call 89; (with_reducible refine HF.out.mono ?_); rintro e w' ⟨rfl, rfl⟩)
    go_ret
    exact ⟨by rw [← HB.out, decide_eq_false (show ¬ (0 ≤ f ∧ f < (n : Int) ∧ 0 ≤ i ∧ i < 8) by omega)]; rfl, rfl⟩
theorem rget1_yes (w : World) (hp wb n : Nat) (mem : List Nat) (f i : Nat) (H : RHost w hp wb n mem) (hf : f < n) (hi : i < 8) :
    Calls Tryd.prog 75 #[.pointer (some ⟨hp, 0, none⟩), .int .i64 (f : Int), .int .i64 (i : Int)] w fun e w' => e = .returned (.tuple #[.int .u64 ((mem.getD (8 * f + i) 0 : Nat) : Int), .bool true]) ∧ w = w' := by
  have hs := ris_any w hp wb n mem f i H
  rw [show decide (0 ≤ (f : Int) ∧ (f : Int) < (n : Int) ∧ 0 ≤ (i : Int) ∧ (i : Int) < 8) = true by rw [decide_eq_true_iff]; omega] at hs
  have hc := H.hdr.cell (k := 0) rfl
  have hn := H.small
  have d2 : w.cell? ⟨wb, f * 8 + i, none⟩ = some (.int .u64 ((mem.getD (8 * f + i) 0 : Nat) : Int)) := H.row.cell (by
    have : f * 8 + i < mem.length := by rw [H.len]; omega
    rw [Nat.mul_comm 8 f]; simp [List.getElem?_eq_getElem this, u64, List.getD])
  obtain ⟨x, hx⟩ : ∃ x, mem.getD (8 * f + i) 0 = x := ⟨_, rfl⟩
  rw [hx] at d2 ⊢
  obtain ⟨L, hL⟩ : ∃ L, 8 * n = L := ⟨_, rfl⟩
  rw [hL] at hc
  have h1 : f * 8 + i < L := by omega
  have HS := Lib.hid hs
  clear H hx hs hL
  go_enter Tryd.func75, Tryd.ntmps75
  go_wp2_with (go_at_call 88; (with_reducible refine HS.out.mono ?_); rintro e w' ⟨rfl, rfl⟩)
  go_ret2
  exact ⟨rfl, rfl⟩
theorem rget1_no (w : World) (hp wb n : Nat) (mem : List Nat) (f i : Int) (H : RHost w hp wb n mem) (h : ¬ (0 ≤ f ∧ f < (n : Int) ∧ 0 ≤ i ∧ i < 8)) :
    Calls Tryd.prog 75 #[.pointer (some ⟨hp, 0, none⟩), .int .i64 f, .int .i64 i] w fun e w' => e = .returned (.tuple #[.int .u64 0, .bool false]) ∧ w = w' := by
  have hs := ris_any w hp wb n mem f i H
  rw [show decide (0 ≤ f ∧ f < (n : Int) ∧ 0 ≤ i ∧ i < 8) = false by rw [decide_eq_false_iff_not]; exact h] at hs
  have HS := Lib.hid hs
  clear H hs h
  go_enter Tryd.func75, Tryd.ntmps75
  go_wp2_with (go_at_call 88; (with_reducible refine HS.out.mono ?_); rintro e w' ⟨rfl, rfl⟩)
  go_ret2
  exact ⟨rfl, rfl⟩
theorem rset1_yes (w : World) (hp wb n : Nat) (mem : List Nat) (f i v : Nat) (H : RHost w hp wb n mem) (hf : f < n) (hi : i < 8) :
    Calls Tryd.prog 74 #[.pointer (some ⟨hp, 0, none⟩), .int .i64 (f : Int), .int .i64 (i : Int), .int .u64 (v : Int)] w fun e w' => e = .returned (.bool true) ∧ w.setCell ⟨wb, f * 8 + i, none⟩ (.int .u64 (v : Int)) = w' := by
  have hs := ris_any w hp wb n mem f i H
  rw [show decide (0 ≤ (f : Int) ∧ (f : Int) < (n : Int) ∧ 0 ≤ (i : Int) ∧ (i : Int) < 8) = true by rw [decide_eq_true_iff]; omega] at hs
  have hc := H.hdr.cell (k := 0) rfl
  have hn := H.small
  have d2 : w.cell? ⟨wb, f * 8 + i, none⟩ = some (.int .u64 ((mem.getD (8 * f + i) 0 : Nat) : Int)) := H.row.cell (by
    have : f * 8 + i < mem.length := by rw [H.len]; omega
    rw [Nat.mul_comm 8 f]; simp [List.getElem?_eq_getElem this, u64, List.getD])
  have d3 := H.row.free (f * 8 + i)
  obtain ⟨x, hx⟩ : ∃ x, mem.getD (8 * f + i) 0 = x := ⟨_, rfl⟩
  rw [hx] at d2
  obtain ⟨L, hL⟩ : ∃ L, 8 * n = L := ⟨_, rfl⟩
  rw [hL] at hc
  have h1 : f * 8 + i < L := by omega
  have HS := Lib.hid hs
  clear H hx hs hL
  go_enter Tryd.func74, Tryd.ntmps74
  go_wp2_with (go_at_call 88; (with_reducible refine HS.out.mono ?_); rintro e w' ⟨rfl, rfl⟩)
  go_ret
  exact ⟨rfl, rfl⟩
theorem rset1_no (w : World) (hp wb n : Nat) (mem : List Nat) (f i : Int) (v : Nat) (H : RHost w hp wb n mem) (h : ¬ (0 ≤ f ∧ f < (n : Int) ∧ 0 ≤ i ∧ i < 8)) :
    Calls Tryd.prog 74 #[.pointer (some ⟨hp, 0, none⟩), .int .i64 f, .int .i64 i, .int .u64 (v : Int)] w fun e w' => e = .returned (.bool false) ∧ w = w' := by
  have hs := ris_any w hp wb n mem f i H
  rw [show decide (0 ≤ f ∧ f < (n : Int) ∧ 0 ≤ i ∧ i < 8) = false by rw [decide_eq_false_iff_not]; exact h] at hs
  have HS := Lib.hid hs
  clear H hs h
  go_enter Tryd.func74, Tryd.ntmps74
  go_wp2_with (go_at_call 88; (with_reducible refine HS.out.mono ?_); rintro e w' ⟨rfl, rfl⟩)
  go_ret
  exact ⟨rfl, rfl⟩
theorem rhost_yes (w : World) (p mp sb hp : Nat) (hosts : List Nat) (cap n g : Nat) (G : RGuest w p mp sb hp hosts cap n) (hg : g < hosts.length) :
    Calls Tryd.prog 73 #[.pointer (some ⟨mp, 0, none⟩), .int .i64 (g : Int)] w fun e w' => e = .returned (.tuple #[.int .i64 ((hosts.getD g 0 : Nat) : Int), .bool true]) ∧ w = w' := by
  have hc := G.gm.cell (k := 0) rfl
  obtain ⟨sp, hsp⟩ := G.row
  obtain ⟨h, hh⟩ : ∃ h, hosts.getD g 0 = h := ⟨_, rfl⟩
  have d1 : w.cell? ⟨sb, g, none⟩ = some (.int .i64 (h : Int)) := hsp.cell (by rw [List.getElem?_append_left (by simpa using hg)]; simp [List.getElem?_eq_getElem hg, i64, ← hh, List.getD])
  have hl := G.len
  obtain ⟨L, hL⟩ : ∃ L, hosts.length = L := ⟨_, rfl⟩
  rw [hL] at hc hg hl
  rw [hh]
  clear G hsp hh hL
  go_enter Tryd.func73, Tryd.ntmps73
  go_wp2
  go_ret2
  exact ⟨rfl, rfl⟩
theorem rhost_no (w : World) (p mp sb hp : Nat) (hosts : List Nat) (cap n : Nat) (g : Int) (G : RGuest w p mp sb hp hosts cap n) (hg : ¬ (0 ≤ g ∧ g < hosts.length)) :
    Calls Tryd.prog 73 #[.pointer (some ⟨mp, 0, none⟩), .int .i64 g] w fun e w' => e = .returned (.tuple #[.int .i64 0, .bool false]) ∧ w = w' := by
  have hc := G.gm.cell (k := 0) rfl
  obtain ⟨L, hL⟩ : ∃ L, hosts.length = L := ⟨_, rfl⟩
  rw [hL] at hc hg
  have hgg : g < 0 ∨ (0 ≤ g ∧ (L : Int) ≤ g) := by omega
  clear G hL hg
  rcases hgg with h | ⟨h0, h⟩
  · go_enter Tryd.func73, Tryd.ntmps73
    go_wp2
    go_ret2
    exact ⟨rfl, rfl⟩
  · go_enter Tryd.func73, Tryd.ntmps73
    go_wp2
    go_ret2
    exact ⟨rfl, rfl⟩
theorem rmget_any {w : World} {p wb n : Nat} {hosts mem : List Nat} (M : RM w p wb hosts n mem) (g i : Int) (o : Option Nat) (ho : rd hosts mem g i = o) :
    Calls Tryd.prog 49 #[.pointer (some ⟨p, 0, none⟩), .int .i64 g, .int .i64 i] w
      fun e w' => e = .returned (.tuple #[.int .u64 ((o.getD 0 : Nat) : Int), .bool o.isSome]) ∧ w = w' := by
  obtain ⟨hp, mp, sb, cap, H, G⟩ := M
  have c0 := G.hdr.cell (k := 0) rfl
  have c1 := G.hdr.cell (k := 1) rfl
  by_cases hg : 0 ≤ g ∧ g < hosts.length
  · obtain ⟨g, rfl⟩ := Int.eq_ofNat_of_zero_le hg.1
    have hg' : g < hosts.length := by omega
    have hh := rhost_yes w p mp sb hp hosts cap n g G hg'
    have hlt : hosts.getD g 0 < n := G.bd _ (by simp [List.getD, List.getElem?_eq_getElem hg'])
    by_cases hi : 0 ≤ i ∧ i < 8
    · obtain ⟨i, rfl⟩ := Int.eq_ofNat_of_zero_le hi.1
      have hi' : i < 8 := by omega
      have hgt := rget1_yes w hp wb n mem (hosts.getD g 0) i H hlt hi'
      have hr : o = some (mem.getD (8 * hosts.getD g 0 + i) 0) := by
        rw [← ho]
        have hp' : place hosts (g : Int) (i : Int) = some (8 * hosts.getD g 0 + i) := by
          unfold place; rw [if_pos ⟨hg.1, hg.2, hi.1, hi.2⟩]; simp [List.getElem?_eq_getElem hg', List.getD]
        unfold rd; rw [hp']; exact some_getD (by rw [H.len]; omega)
      subst hr
      obtain ⟨x, hx⟩ : ∃ x, mem.getD (8 * hosts.getD g 0 + i) 0 = x := ⟨_, rfl⟩
      rw [hx] at hgt ⊢
      obtain ⟨q, hq⟩ : ∃ q, hosts.getD g 0 = q := ⟨_, rfl⟩
      rw [hq] at hgt hh
      have HH := Lib.hid hh
      have HGt := Lib.hid hgt
      clear hh hgt H G ho hg hi hlt hg' hx hq
      go_enter Tryd.func49, Tryd.ntmps49
      go_wp2_with (first
        | (go_at_call 73; (with_reducible refine HH.out.mono ?_); rintro e w' ⟨rfl, rfl⟩)
        | (go_at_call 75; (with_reducible refine HGt.out.mono ?_); rintro e w' ⟨rfl, rfl⟩))
      go_ret2
      exact ⟨rfl, rfl⟩
    · have hgt := rget1_no w hp wb n mem (hosts.getD g 0 : Nat) i H (fun h => hi ⟨h.2.2.1, h.2.2.2⟩)
      have hr : o = none := by rw [← ho]; unfold rd place; rw [if_neg (fun h => hi ⟨h.2.2.1, h.2.2.2⟩)]; rfl
      subst hr
      obtain ⟨q, hq⟩ : ∃ q, hosts.getD g 0 = q := ⟨_, rfl⟩
      rw [hq] at hgt hh
      have HH := Lib.hid hh
      have HGt := Lib.hid hgt
      clear hh hgt H G ho hg hi hlt hg' hq
      go_enter Tryd.func49, Tryd.ntmps49
      go_wp2_with (first
        | (go_at_call 73; (with_reducible refine HH.out.mono ?_); rintro e w' ⟨rfl, rfl⟩)
        | (go_at_call 75; (with_reducible refine HGt.out.mono ?_); rintro e w' ⟨rfl, rfl⟩))
      go_ret2
      exact ⟨rfl, rfl⟩
  · have hh := rhost_no w p mp sb hp hosts cap n g G hg
    have hr : o = none := by rw [← ho]; unfold rd place; rw [if_neg (fun h => hg ⟨h.1, h.2.1⟩)]; rfl
    subst hr
    have HH := Lib.hid hh
    clear hh H G ho hg
    go_enter Tryd.func49, Tryd.ntmps49
    go_wp2_with (go_at_call 73; (with_reducible refine HH.out.mono ?_); rintro e w' ⟨rfl, rfl⟩)
    go_ret2
    exact ⟨rfl, rfl⟩
theorem rmset_any {w : World} {p wb n : Nat} {hosts mem : List Nat} (M : RM w p wb hosts n mem) (g i : Int) (v : Nat) (hv : v < 2 ^ 64) :
    Calls Tryd.prog 48 #[.pointer (some ⟨p, 0, none⟩), .int .i64 g, .int .i64 i, .int .u64 (v : Int)] w
      fun e w' => (∃ b, e = .returned (.bool b)) ∧ RM w' p wb hosts n (wr hosts mem g i v) ∧ Kept w.heap.size (fun k => k = wb) w w' ∧ w'.heap.size = w.heap.size := by
  obtain ⟨hp, mp, sb, cap, H, G⟩ := M
  have c0 := G.hdr.cell (k := 0) rfl
  have c1 := G.hdr.cell (k := 1) rfl
  have hM : RM w p wb hosts n mem := ⟨hp, mp, sb, cap, H, G⟩
  by_cases hg : 0 ≤ g ∧ g < hosts.length
  · obtain ⟨g, rfl⟩ := Int.eq_ofNat_of_zero_le hg.1
    have hg' : g < hosts.length := by omega
    have hh := rhost_yes w p mp sb hp hosts cap n g G hg'
    have hlt : hosts.getD g 0 < n := G.bd _ (by simp [List.getD, List.getElem?_eq_getElem hg'])
    by_cases hi : 0 ≤ i ∧ i < 8
    · obtain ⟨i, rfl⟩ := Int.eq_ofNat_of_zero_le hi.1
      have hi' : i < 8 := by omega
      have hgt := rset1_yes w hp wb n mem (hosts.getD g 0) i v H hlt hi'
      have hp' : place hosts (g : Int) (i : Int) = some (8 * hosts.getD g 0 + i) := by
        unfold place; rw [if_pos ⟨hg.1, hg.2, hi.1, hi.2⟩]; simp [List.getElem?_eq_getElem hg', List.getD]
      have hnew : ∀ w', w.setCell ⟨wb, hosts.getD g 0 * 8 + i, none⟩ (.int .u64 (v : Int)) = w' → RM w' p wb hosts n (wr hosts mem g i v) ∧ Kept w.heap.size (fun k => k = wb) w w' ∧ w'.heap.size = w.heap.size := by
        rintro w' rfl
        obtain ⟨sp, hsp⟩ := G.row
        have n0 : wb ≠ hp := fun e => by subst e; exact absurd (H.row.inj H.hdr).2 (by decide)
        have n1 : wb ≠ p := fun e => by subst e; exact absurd (H.row.inj G.hdr).2 (by decide)
        have n2 : wb ≠ mp := fun e => by subst e; exact absurd (H.row.inj G.gm).2 (by decide)
        have n3 : wb ≠ sb := fun e => by subst e; exact absurd (H.row.inj hsp).2 (by decide)
        have e : hosts.getD g 0 * 8 + i = 8 * hosts.getD g 0 + i := by omega
        refine ⟨⟨hp, mp, sb, cap, ⟨H.hdr.other (Ne.symm n0) _, ?_, by unfold wr; rw [hp']; simpa using H.len, H.small, ?_⟩, ⟨G.hdr.other (Ne.symm n1) _, G.gm.other (Ne.symm n2) _, ⟨sp, hsp.other (Ne.symm n3) _⟩, G.len, G.bd⟩⟩, (Kept.refl w.heap.size (fun k => k = wb) w).setCell (p := ⟨wb, hosts.getD g 0 * 8 + i, none⟩) (.inl rfl) _, by simp⟩
        · have := H.row.set (hosts.getD g 0 * 8 + i) (u64 v)
          rw [e] at this
          unfold wr; rw [hp', e]; simpa [u64, List.map_set] using this
        · intro x hx
          unfold wr at hx; rw [hp'] at hx
          rcases List.mem_or_eq_of_mem_set hx with h | h
          · exact H.bd x h
          · omega
      obtain ⟨q, hq⟩ : ∃ q, hosts.getD g 0 = q := ⟨_, rfl⟩
      rw [hq] at hgt hh hnew
      have HN := Lib.hid hnew
      have HH := Lib.hid hh
      have HGt := Lib.hid hgt
      clear hh hgt H G hg hi hlt hg' hM hnew hp' hq
      go_enter Tryd.func48, Tryd.ntmps48
      go_wp2_with (first
        | (go_at_call 73; (with_reducible refine HH.out.mono ?_); rintro e w' ⟨rfl, rfl⟩)
        | (go_at_call 74; (with_reducible refine HGt.out.mono ?_); rintro e W' ⟨rfl, hW⟩))
      go_ret
      exact ⟨⟨_, rfl⟩, HN.out _ hW⟩
    · have hgt := rset1_no w hp wb n mem (hosts.getD g 0 : Nat) i v H (fun h => hi ⟨h.2.2.1, h.2.2.2⟩)
      have hr : wr hosts mem g i v = mem := by unfold wr place; rw [if_neg (fun h => hi ⟨h.2.2.1, h.2.2.2⟩)]
      rw [hr]
      obtain ⟨q, hq⟩ : ∃ q, hosts.getD g 0 = q := ⟨_, rfl⟩
      rw [hq] at hgt hh
      have HH := Lib.hid hh
      have HGt := Lib.hid hgt
      clear hh hgt H G hg hi hlt hg' hq
      go_enter Tryd.func48, Tryd.ntmps48
      go_wp2_with (first
        | (go_at_call 73; (with_reducible refine HH.out.mono ?_); rintro e w' ⟨rfl, rfl⟩)
        | (go_at_call 74; (with_reducible refine HGt.out.mono ?_); rintro e w' ⟨rfl, rfl⟩))
      go_ret
      exact ⟨⟨_, rfl⟩, hM, Kept.refl _ _ _, rfl⟩
  · have hh := rhost_no w p mp sb hp hosts cap n g G hg
    have hr : wr hosts mem g i v = mem := by unfold wr place; rw [if_neg (fun h => hg ⟨h.1, h.2.1⟩)]
    rw [hr]
    have HH := Lib.hid hh
    clear hh H G hg
    go_enter Tryd.func48, Tryd.ntmps48
    go_wp2_with (go_at_call 73; (with_reducible refine HH.out.mono ?_); rintro e w' ⟨rfl, rfl⟩)
    go_ret
    exact ⟨⟨_, rfl⟩, hM, Kept.refl _ _ _, rfl⟩
theorem rmframes_any {w : World} {p wb n : Nat} {hosts mem : List Nat} (M : RM w p wb hosts n mem) :
    Calls Tryd.prog 51 #[.pointer (some ⟨p, 0, none⟩)] w fun e w' => e = .returned (.int .i64 (hosts.length : Int)) ∧ w = w' := by
  obtain ⟨hp, mp, sb, cap, H, G⟩ := M
  have c1 := G.hdr.cell (k := 1) rfl
  have hc := G.gm.cell (k := 0) rfl
  have hm : Calls Tryd.prog 76 #[.pointer (some ⟨mp, 0, none⟩)] w fun e w' => e = .returned (.int .i64 (hosts.length : Int)) ∧ w = w' := by
    clear H G c1
    go_enter Tryd.func76, Tryd.ntmps76
    go_wp2
    go_ret
    exact ⟨rfl, rfl⟩
  have HM := Lib.hid hm
  clear H G hm hc
  go_enter Tryd.func51, Tryd.ntmps51
  go_wp2_with (go_at_call 76; (with_reducible refine HM.out.mono ?_); rintro e w' ⟨rfl, rfl⟩)
  go_ret
  exact ⟨rfl, rfl⟩
end Go.Proofs.YtlldbfpccdmclaaDoor
