/- layer 11's head: a live question. -/
import Derived.Test.YtgaififhhffpfaaGreatDoorChGet
import Derived.Test.YtgaififhhffpfaaGreatDoorHead10
namespace Go.Proofs.YtgaififhhffpfaaGreatDoor
open Go.RowKit Go.Shelf

def tab11 : List (Int × Int × Nat) := [(1, 0, 8231), (2, 0, 12327), (3, 0, 36903), (3, 1, 40967)]
def chA : List (Bool × Int) := [(true, 0), (true, 0), (true, 1), (false, 5), (true, 512)]
def chB : List (Bool × Int) := [(false, 0)]
def chD : List (Bool × Int) := [(true, 3), (false, 300)]
def hS0 : S10 := ⟨puts tab11, 1, []⟩
def hS1 : S10 := (applyN hS0 chA).2
def hS2 : S10 := (applyN hS1 chB).2
theorem hA1 : (applyN hS0 chA).1 = 1 := by decide +kernel
theorem hA2 : hS1.l.length = 1 := by decide +kernel
theorem hA3 : (applyN hS1 chB).1 = 1 := by decide +kernel
theorem hA4 : hS2.l.length = 0 := by decide +kernel
theorem hP1 : putC chD = [128, 3, 1, 44] := by decide +kernel
theorem hG1 : getC [128, 3, 1, 44] = (chD, 0) := by decide +kernel
theorem hG2 : getC [2, 0] = ([], 12) := by decide +kernel
theorem hG3 : getC [2] = ([], 12) := by decide +kernel
theorem hBy : byteS [128, 3, 1, 44] = ⟨#[128, 3, 1, 44]⟩ := by decide +kernel
theorem tab11_ps (w : World) : Ps (w.alloc (.cells #[.int .i64 1, .int .i64 0, .int .u64 8231, .int .i64 2, .int .i64 0, .int .u64 12327, .int .i64 3, .int .i64 0, .int .u64 36903, .int .i64 3, .int .i64 1, .int .u64 40967] 70)) (some ⟨w.heap.size, 0, none⟩) tab11 := by
  have hb := Blk.new w 70 [.int .i64 1, .int .i64 0, .int .u64 8231, .int .i64 2, .int .i64 0, .int .u64 12327, .int .i64 3, .int .i64 0, .int .u64 36903, .int .i64 3, .int .i64 1, .int .u64 40967]
  refine .inr ⟨w.heap.size, 0, rfl, by simp, fun j hj => ?_⟩
  match j, hj with
  | 0, _ => exact ⟨by decide, hb.cell rfl, hb.cell rfl, hb.cell rfl⟩
  | 1, _ => exact ⟨by decide, hb.cell rfl, hb.cell rfl, hb.cell rfl⟩
  | 2, _ => exact ⟨by decide, hb.cell rfl, hb.cell rfl, hb.cell rfl⟩
  | 3, _ => exact ⟨by decide, hb.cell rfl, hb.cell rfl, hb.cell rfl⟩
  | j + 4, h => simp [tab11] at h; omega
set_option maxRecDepth 100000 in
set_option maxHeartbeats 8000000 in
theorem head11_any (w : World) (hg : EC w) : Calls Tryz.prog 45 #[] w fun e w' => e = .returned (.bool true) ∧ Below w.heap.size w w' := by
  have hB1 : 1 ≤ w.heap.size := lt_of_cell hg
  obtain ⟨w1, hw1⟩ : ∃ W, w.alloc (.cells #[.int .i64 1, .int .i64 0, .int .u64 8231, .int .i64 2, .int .i64 0, .int .u64 12327, .int .i64 3, .int .i64 0, .int .u64 36903, .int .i64 3, .int .i64 1, .int .u64 40967] 70) = W := ⟨_, rfl⟩
  have hps := tab11_ps w
  rw [hw1] at hps
  have bb : Below w.heap.size w w1 := by rw [← hw1]; exact bal w _
  have hE1 : EC w1 := hg.past bb
  have hB2 : 1 ≤ w1.heap.size := Nat.le_trans hB1 bb.size
  have hma : Calls Tryz.prog 15 #[.slice (some ⟨w.heap.size, 0, none⟩) 4 4] w1
      fun e w' => ∃ A : GA, e = .returned (.pointer (some ⟨A.p, 0, none⟩)) ∧ Hold w1 w' [gmem A (puts tab11)] := made_h (Hold.nil w1) _ 4 tab11 hps (by decide)
  have HMa := Lib.hid hma
  have HE := Lib.hid hE1
  have HB := Lib.hid hB2
  have HBb := Lib.hid bb
  have HW := Lib.hid hw1
  clear hma hE1 hB2 bb hps hB1 hw1 hg
  go_enter Tryz.func45, Tryz.ntmps45
  go_wp2_with (first
    | (go_at_call 15; rw [HW.out]; (with_reducible refine HMa.out.mono ?_); rintro e W1 ⟨A, rfl, H1⟩)
    | (go_at_call 16; (with_reducible refine (new_h H1 0 rfl 1).mono ?_); rintro e W2 ⟨p, tp, rfl, H2'⟩; have H2 : Hold w1 W2 [mdl ⟨p, tp, A⟩ (.slice none 0 0) hS0] := H2'; have H2n : Hold w1 (W2.alloc (.cells #[.bool true, .int .i64 0, .bool true, .int .i64 0, .bool true, .int .i64 1, .bool false, .int .i64 5, .bool true, .int .i64 512] 79)) [box W2.heap.size 79 [.bool true, .int .i64 0, .bool true, .int .i64 0, .bool true, .int .i64 1, .bool false, .int .i64 5, .bool true, .int .i64 512], mdl ⟨p, tp, A⟩ (.slice none 0 0) hS0] := H2.new 79 [.bool true, .int .i64 0, .bool true, .int .i64 0, .bool true, .int .i64 1, .bool false, .int .i64 5, .bool true, .int .i64 512])
    | (go_at_call 46; (with_reducible refine (apply_n H2n 1 rfl HE.out HB.out (some ⟨W2.heap.size, 0, none⟩) 5 chA 5 rfl (by decide) (fun W v' S' H => chs_blk (rest := []) (H.box 0 rfl))).mono ?_); rintro e W3 ⟨he, v3, H3'⟩; rw [hA1] at he; have he : e = Ending.returned (.int .i64 1) := he; subst he; have H3 : Hold w1 W3 [box W2.heap.size 79 [.bool true, .int .i64 0, .bool true, .int .i64 0, .bool true, .int .i64 1, .bool false, .int .i64 5, .bool true, .int .i64 512], mdl ⟨p, tp, A⟩ v3 hS1] := H3'; clear H1 H2 H2' H2n H3')
    | (go_at_call 37; (with_reducible refine (mall_h H3 1 rfl).mono ?_); rintro e W4 ⟨⟨v4, rfl, hr4⟩, b4⟩; obtain ⟨a4, c4, rfl⟩ := hr4.slice; simp only [hA2]; have H4 := H3.past b4; have H4n : Hold w1 (W4.alloc (.cells #[.bool false, .int .i64 0] 79)) [box W4.heap.size 79 [.bool false, .int .i64 0], box W2.heap.size 79 [.bool true, .int .i64 0, .bool true, .int .i64 0, .bool true, .int .i64 1, .bool false, .int .i64 5, .bool true, .int .i64 512], mdl ⟨p, tp, A⟩ v3 hS1] := H4.new 79 [.bool false, .int .i64 0]; clear H3 H4 b4 hr4)
    | (go_at_call 46; (with_reducible refine (apply_n H4n 2 rfl HE.out HB.out (some ⟨W4.heap.size, 0, none⟩) 1 chB 1 rfl (by decide) (fun W v' S' H => chs_blk (rest := []) (H.box 0 rfl))).mono ?_); rintro e W5 ⟨he, v5, H5'⟩; rw [hA3] at he; have he : e = Ending.returned (.int .i64 1) := he; subst he; have H5 : Hold w1 W5 [box W4.heap.size 79 [.bool false, .int .i64 0], box W2.heap.size 79 [.bool true, .int .i64 0, .bool true, .int .i64 0, .bool true, .int .i64 1, .bool false, .int .i64 5, .bool true, .int .i64 512], mdl ⟨p, tp, A⟩ v5 hS2] := H5'; have H5n : Hold w1 (W5.alloc (.cells #[.bool true, .int .i64 3, .bool false, .int .i64 300] 79)) [box W5.heap.size 79 [.bool true, .int .i64 3, .bool false, .int .i64 300], box W4.heap.size 79 [.bool false, .int .i64 0], box W2.heap.size 79 [.bool true, .int .i64 0, .bool true, .int .i64 0, .bool true, .int .i64 1, .bool false, .int .i64 5, .bool true, .int .i64 512], mdl ⟨p, tp, A⟩ v5 hS2] := H5.new 79 [.bool true, .int .i64 3, .bool false, .int .i64 300]; clear H4n H5 H5')
    | (go_at_call 50; (with_reducible refine (put_n _ (some ⟨W5.heap.size, 0, none⟩) 2 chD 2 rfl (chs_blk (rest := []) (H5n.box 0 rfl)) (by decide)).mono ?_); rintro e W6 ⟨⟨v6, rfl, hr6⟩, b6⟩; rw [hP1] at hr6; obtain ⟨a6, c6, rfl, y6, le6, _⟩ := hr6.view (by decide); have le6 : 4 ≤ c6 := le6; have H6 := H5n.past b6; simp only [List.length_cons, List.length_nil, Nat.reduceAdd]; clear H5n b6 hr6)
    | (go_at_call 47; (with_reducible refine (get_n W6 a6 c6 [128, 3, 1, 44] 4 rfl y6 le6 (by decide)).mono ?_); rintro e W7 ⟨⟨v7, he, hr7⟩, b7⟩; rw [hG1] at he hr7; obtain ⟨a7, c7, hv7, z7, le7, _⟩ := hr7.view; subst hv7; have he : e = Ending.returned (.tuple #[.slice a7 2 c7, .int .i64 0]) := he; subst he; have H7 := H6.past b7; have y7 := y6.below b7; have n7 := bal W7 (.cells #[.int .u8 2, .int .u8 0] 5); have u7 : Bys (W7.alloc (.cells #[.int .u8 2, .int .u8 0] 5)) (some ⟨W7.heap.size, 0, none⟩) [2, 0] := bys_blk (rest := []) (by decide) (Blk.new W7 5 [.int .u8 2, .int .u8 0]); have H7n := H7.past n7; have y7n := y7.below n7; have z7n := z7.below n7; clear H6 H7 y6 y7 b7 hr7 n7 z7)
    | (go_at_call 47; (with_reducible refine (get_n _ (some ⟨W7.heap.size, 0, none⟩) 2 [2, 0] 2 rfl u7 (by decide) (by decide)).mono ?_); rintro e W8 ⟨⟨v8, he, _⟩, b8⟩; rw [hG2] at he; have he : e = Ending.returned (.tuple #[v8, .int .i64 12]) := he; subst he; have H8 := H7n.past b8; have y8 := y7n.below b8; have z8 := z7n.below b8; have n8 := bal W8 (.cells #[.int .u8 2] 5); have u8' : Bys (W8.alloc (.cells #[.int .u8 2] 5)) (some ⟨W8.heap.size, 0, none⟩) [2] := bys_blk (rest := []) (by decide) (Blk.new W8 5 [.int .u8 2]); have H8n := H8.past n8; have y8n := y8.below n8; have z8n := z8.below n8; clear H7n H8 y7n y8 z7n z8 b8 n8 u7)
    | (go_at_call 47; (with_reducible refine (get_n _ (some ⟨W8.heap.size, 0, none⟩) 1 [2] 1 rfl u8' (by decide) (by decide)).mono ?_); rintro e W9 ⟨⟨v9, he, _⟩, b9⟩; rw [hG3] at he; have he : e = Ending.returned (.tuple #[v9, .int .i64 12]) := he; subst he; have H9 := H8n.past b9; have y9 := y8n.below b9; have z9 := z8n.below b9; clear H8n y8n z8n b9 u8')
    | (go_at_call 37; (with_reducible refine (mall_h H9 3 rfl).mono ?_); rintro e W10 ⟨⟨v10, rfl, hr10⟩, b10⟩; obtain ⟨a10, c10, rfl⟩ := hr10.slice; simp only [hA4]; have H10 := H9.past b10; have y10 := y9.below b10; have z10 := z9.below b10; have hcv := conv_bys y10 4 c6 rfl; rw [hBy] at hcv; have n10 := bal W10 (.cells #[.bool true, .int .i64 3, .bool false, .int .i64 300] 79); have z10n := z10.below n10; have k10 : Chs (W10.alloc (.cells #[.bool true, .int .i64 3, .bool false, .int .i64 300] 79)) (some ⟨W10.heap.size, 0, none⟩) chD := chs_blk (rest := []) (Blk.new W10 79 [.bool true, .int .i64 3, .bool false, .int .i64 300]); have H10n := H10.past n10; clear H9 y9 z9 b10 hr10 n10 H10 z10 y10)
    | (go_at_call 52; (with_reducible refine (same_n _ a7 (some ⟨W10.heap.size, 0, none⟩) c7 2 chD chD 2 2 rfl rfl z10n k10 (by decide) (by decide)).mono ?_); rintro e W11 ⟨he, b11⟩; have he : e = Ending.returned (.bool true) := he; subst he; have H11 := H10n.past b11; clear H10n b11 z10n k10)
    | (go_at_call 102; (with_reducible refine (cright_any _ false 511 true rfl).mono ?_); rintro e W12 ⟨rfl, b12⟩; have H12 := H11.past b12)
    | (go_at_call 102; (with_reducible refine (cright_any _ false (-1) false rfl).mono ?_); rintro e W13 ⟨rfl, b13⟩; have H13 := H12.past b13))
  go_ret
  exact ⟨rfl, HBb.out.trans (H13.b.mono HBb.out.size)⟩
end Go.Proofs.YtgaififhhffpfaaGreatDoor
