/- layer 10's head: a live question. -/
import Derived.Test.YtgaififhhffpfaaGreatDoorDo
namespace Go.Proofs.YtgaififhhffpfaaGreatDoor
open Go.RowKit Go.Shelf

def tabL : List (Int × Int × Nat) := [(1, 0, 8199), (2, 0, 12295), (3, 0, 36871), (3, 1, 40965)]
def hd0 : S10 := ⟨puts tabL, 1, []⟩
def hd1 : S10 := (accS hd0 0 true 8 0).2
def hd2 : S10 := (accS hd1 1 true 8 77).2
def hd3 : S10 := (accS hd2 0 false 8 0).2
def hd4 : S10 := (accS hd3 1 true 64 1).2
def hd5 : S10 := (accS hd4 0 true 4 0).2
def hd6 : S10 := (accS hd5 0 true 1048576 0).2
def hd7 : S10 := (editS hd6 3 0 0).2
def hd8 : S10 := (accS hd7 0 true 8 0).2
def hd9 : S10 := dropS hd8 0
def hd10 : S10 := (accS hd9 0 true 8 0).2
def hd11 : S10 := (editS hd10 16 0 0).2
theorem hf1 : (accS hd0 0 true 8 0).1.val = .agg #[.int .i64 0, .int .u64 0, .int .i64 0, .int .u64 0] := by
  have h : (accS hd0 0 true 8 0).1 = ⟨0, 0, 0, 0⟩ := by decide +kernel
  rw [h]; rfl
theorem hc1 {B : Nat} {F : List Nat} {w : World} {p tp gp fb : Nat} (M : MM B F w p tp gp fb hd0) (hE : EC w) (h0 : 1 ≤ B) (hB : B ≤ w.heap.size) : Calls Tryz.prog 22 #[.pointer (some ⟨p, 0, none⟩), .int .i64 0, .bool true, .int .u64 8, .int .u64 0] w fun e w' => e = .returned (.agg #[.int .i64 0, .int .u64 0, .int .i64 0, .int .u64 0]) ∧ Did B F w p tp gp fb hd1 w' := by
  have h := access_mm M hE h0 hB 0 true 8 0 (by decide) (by decide)
  rw [hf1] at h
  exact h
theorem hf2 : (accS hd1 1 true 8 77).1.val = .agg #[.int .i64 0, .int .u64 0, .int .i64 0, .int .u64 0] := by
  have h : (accS hd1 1 true 8 77).1 = ⟨0, 0, 0, 0⟩ := by decide +kernel
  rw [h]; rfl
theorem hc2 {B : Nat} {F : List Nat} {w : World} {p tp gp fb : Nat} (M : MM B F w p tp gp fb hd1) (hE : EC w) (h0 : 1 ≤ B) (hB : B ≤ w.heap.size) : Calls Tryz.prog 22 #[.pointer (some ⟨p, 0, none⟩), .int .i64 1, .bool true, .int .u64 8, .int .u64 77] w fun e w' => e = .returned (.agg #[.int .i64 0, .int .u64 0, .int .i64 0, .int .u64 0]) ∧ Did B F w p tp gp fb hd2 w' := by
  have h := access_mm M hE h0 hB 1 true 8 77 (by decide) (by decide)
  rw [hf2] at h
  exact h
theorem hf3 : (accS hd2 0 false 8 0).1.val = .agg #[.int .i64 0, .int .u64 77, .int .i64 0, .int .u64 0] := by
  have h : (accS hd2 0 false 8 0).1 = ⟨0, 77, 0, 0⟩ := by decide +kernel
  rw [h]; rfl
theorem hc3 {B : Nat} {F : List Nat} {w : World} {p tp gp fb : Nat} (M : MM B F w p tp gp fb hd2) (hE : EC w) (h0 : 1 ≤ B) (hB : B ≤ w.heap.size) : Calls Tryz.prog 22 #[.pointer (some ⟨p, 0, none⟩), .int .i64 0, .bool false, .int .u64 8, .int .u64 0] w fun e w' => e = .returned (.agg #[.int .i64 0, .int .u64 77, .int .i64 0, .int .u64 0]) ∧ Did B F w p tp gp fb hd3 w' := by
  have h := access_mm M hE h0 hB 0 false 8 0 (by decide) (by decide)
  rw [hf3] at h
  exact h
theorem hf4 : rd h16 hd3.mem 3 0 = some 36967 := by decide +kernel
theorem hf5 : (accS hd3 1 true 64 1).1.val = .agg #[.int .i64 1, .int .u64 0, .int .i64 7, .int .u64 64] := by
  have h : (accS hd3 1 true 64 1).1 = ⟨1, 0, 7, 64⟩ := by decide +kernel
  rw [h]; rfl
theorem hc5 {B : Nat} {F : List Nat} {w : World} {p tp gp fb : Nat} (M : MM B F w p tp gp fb hd3) (hE : EC w) (h0 : 1 ≤ B) (hB : B ≤ w.heap.size) : Calls Tryz.prog 22 #[.pointer (some ⟨p, 0, none⟩), .int .i64 1, .bool true, .int .u64 64, .int .u64 1] w fun e w' => e = .returned (.agg #[.int .i64 1, .int .u64 0, .int .i64 7, .int .u64 64]) ∧ Did B F w p tp gp fb hd4 w' := by
  have h := access_mm M hE h0 hB 1 true 64 1 (by decide) (by decide)
  rw [hf5] at h
  exact h
theorem hf6 : (accS hd4 0 true 4 0).1.val = .agg #[.int .i64 4, .int .u64 0, .int .i64 0, .int .u64 4] := by
  have h : (accS hd4 0 true 4 0).1 = ⟨4, 0, 0, 4⟩ := by decide +kernel
  rw [h]; rfl
theorem hc6 {B : Nat} {F : List Nat} {w : World} {p tp gp fb : Nat} (M : MM B F w p tp gp fb hd4) (hE : EC w) (h0 : 1 ≤ B) (hB : B ≤ w.heap.size) : Calls Tryz.prog 22 #[.pointer (some ⟨p, 0, none⟩), .int .i64 0, .bool true, .int .u64 4, .int .u64 0] w fun e w' => e = .returned (.agg #[.int .i64 4, .int .u64 0, .int .i64 0, .int .u64 4]) ∧ Did B F w p tp gp fb hd5 w' := by
  have h := access_mm M hE h0 hB 0 true 4 0 (by decide) (by decide)
  rw [hf6] at h
  exact h
theorem hf7 : (accS hd5 0 true 1048576 0).1.val = .agg #[.int .i64 2, .int .u64 0, .int .i64 0, .int .u64 1048576] := by
  have h : (accS hd5 0 true 1048576 0).1 = ⟨2, 0, 0, 1048576⟩ := by decide +kernel
  rw [h]; rfl
theorem hc7 {B : Nat} {F : List Nat} {w : World} {p tp gp fb : Nat} (M : MM B F w p tp gp fb hd5) (hE : EC w) (h0 : 1 ≤ B) (hB : B ≤ w.heap.size) : Calls Tryz.prog 22 #[.pointer (some ⟨p, 0, none⟩), .int .i64 0, .bool true, .int .u64 1048576, .int .u64 0] w fun e w' => e = .returned (.agg #[.int .i64 2, .int .u64 0, .int .i64 0, .int .u64 1048576]) ∧ Did B F w p tp gp fb hd6 w' := by
  have h := access_mm M hE h0 hB 0 true 1048576 0 (by decide) (by decide)
  rw [hf7] at h
  exact h
theorem hf8 : (editS hd6 3 0 0).1.val = .agg #[.int .i64 0, .int .u64 0, .int .i64 0, .int .u64 0] := by
  have h : (editS hd6 3 0 0).1 = ⟨0, 0, 0, 0⟩ := by decide +kernel
  rw [h]; rfl
theorem hc8 {B : Nat} {F : List Nat} {w : World} {p tp gp fb : Nat} (M : MM B F w p tp gp fb hd6) (_ : EC w) (_ : 1 ≤ B) (hB : B ≤ w.heap.size) : Calls Tryz.prog 27 #[.pointer (some ⟨p, 0, none⟩), .int .i64 3, .int .i64 0, .int .u64 0] w fun e w' => e = .returned (.agg #[.int .i64 0, .int .u64 0, .int .i64 0, .int .u64 0]) ∧ Did B F w p tp gp fb hd7 w' := by
  have h := edit_mm M hB 3 0 0 (by decide)
  rw [hf8] at h
  exact h
theorem hf9 : (accS hd7 0 true 8 0).1.val = .agg #[.int .i64 0, .int .u64 77, .int .i64 0, .int .u64 0] := by
  have h : (accS hd7 0 true 8 0).1 = ⟨0, 77, 0, 0⟩ := by decide +kernel
  rw [h]; rfl
theorem hc9 {B : Nat} {F : List Nat} {w : World} {p tp gp fb : Nat} (M : MM B F w p tp gp fb hd7) (hE : EC w) (h0 : 1 ≤ B) (hB : B ≤ w.heap.size) : Calls Tryz.prog 22 #[.pointer (some ⟨p, 0, none⟩), .int .i64 0, .bool true, .int .u64 8, .int .u64 0] w fun e w' => e = .returned (.agg #[.int .i64 0, .int .u64 77, .int .i64 0, .int .u64 0]) ∧ Did B F w p tp gp fb hd8 w' := by
  have h := access_mm M hE h0 hB 0 true 8 0 (by decide) (by decide)
  rw [hf9] at h
  exact h
theorem hf10 : (tget hd8.l 0 0).isSome = true := by decide +kernel
theorem hf11 : (accS hd9 0 true 8 0).1.val = .agg #[.int .i64 1, .int .u64 0, .int .i64 4, .int .u64 8] := by
  have h : (accS hd9 0 true 8 0).1 = ⟨1, 0, 4, 8⟩ := by decide +kernel
  rw [h]; rfl
theorem hc11 {B : Nat} {F : List Nat} {w : World} {p tp gp fb : Nat} (M : MM B F w p tp gp fb hd9) (hE : EC w) (h0 : 1 ≤ B) (hB : B ≤ w.heap.size) : Calls Tryz.prog 22 #[.pointer (some ⟨p, 0, none⟩), .int .i64 0, .bool true, .int .u64 8, .int .u64 0] w fun e w' => e = .returned (.agg #[.int .i64 1, .int .u64 0, .int .i64 4, .int .u64 8]) ∧ Did B F w p tp gp fb hd10 w' := by
  have h := access_mm M hE h0 hB 0 true 8 0 (by decide) (by decide)
  rw [hf11] at h
  exact h
theorem hf12 : (editS hd10 16 0 0).1.val = .agg #[.int .i64 3, .int .u64 0, .int .i64 0, .int .u64 0] := by
  have h : (editS hd10 16 0 0).1 = ⟨3, 0, 0, 0⟩ := by decide +kernel
  rw [h]; rfl
theorem hc12 {B : Nat} {F : List Nat} {w : World} {p tp gp fb : Nat} (M : MM B F w p tp gp fb hd10) (_ : EC w) (_ : 1 ≤ B) (hB : B ≤ w.heap.size) : Calls Tryz.prog 27 #[.pointer (some ⟨p, 0, none⟩), .int .i64 16, .int .i64 0, .int .u64 0] w fun e w' => e = .returned (.agg #[.int .i64 3, .int .u64 0, .int .i64 0, .int .u64 0]) ∧ Did B F w p tp gp fb hd11 w' := by
  have h := edit_mm M hB 16 0 0 (by decide)
  rw [hf12] at h
  exact h
theorem hfz : hd11.l = [] := by decide +kernel
theorem HRow.slice {w : World} {v : Value} {l : List Hit} (h : HRow w v l) : ∃ a c, v = .slice a l.length c := by
  rcases h.view with ⟨rfl, rfl⟩ | ⟨g, cap, rest, rfl, _⟩
  · exact ⟨none, 0, rfl⟩
  · exact ⟨_, _, rfl⟩
theorem gm_get_bel {w : World} {p fb n : Nat} {hosts mem : List Nat} (h : GM w p fb hosts n mem) (g i : Int) (o : Option Nat) (ho : rd hosts mem g i = o) :
    Calls Tryz.prog 21 #[.pointer (some ⟨p, 0, none⟩), .int .i64 g, .int .i64 i] w
      fun e w' => e = .returned (.tuple #[.int .u64 ((o.getD 0 : Nat) : Int), .bool o.isSome]) ∧ Below w.heap.size w w' :=
  (gm_get h g i o ho).mono fun _ _ h => ⟨h.1, h.2 ▸ Below.refl _ _⟩
theorem tab_ps (w : World) : Ps (w.alloc (.cells #[.int .i64 1, .int .i64 0, .int .u64 8199, .int .i64 2, .int .i64 0, .int .u64 12295, .int .i64 3, .int .i64 0, .int .u64 36871, .int .i64 3, .int .i64 1, .int .u64 40965] 70)) (some ⟨w.heap.size, 0, none⟩) tabL := by
  have hb := Blk.new w 70 [.int .i64 1, .int .i64 0, .int .u64 8199, .int .i64 2, .int .i64 0, .int .u64 12295, .int .i64 3, .int .i64 0, .int .u64 36871, .int .i64 3, .int .i64 1, .int .u64 40965]
  refine .inr ⟨w.heap.size, 0, rfl, by simp, fun j hj => ?_⟩
  match j, hj with
  | 0, _ => exact ⟨by decide, hb.cell rfl, hb.cell rfl, hb.cell rfl⟩
  | 1, _ => exact ⟨by decide, hb.cell rfl, hb.cell rfl, hb.cell rfl⟩
  | 2, _ => exact ⟨by decide, hb.cell rfl, hb.cell rfl, hb.cell rfl⟩
  | 3, _ => exact ⟨by decide, hb.cell rfl, hb.cell rfl, hb.cell rfl⟩
  | j + 4, h => simp [tabL] at h; omega
theorem tables_any (w : World) : Calls Tryz.prog 54 #[] w fun e w' => (∃ a c, e = .returned (.slice a 4 c) ∧ Ps w' a tabL) ∧ Below w.heap.size w w' := by
  go_enter Tryz.func54, Tryz.ntmps54
  go_wp2
  go_ret
  exact ⟨⟨_, _, rfl, tab_ps w⟩, bal _ _⟩
set_option maxRecDepth 100000 in
set_option maxHeartbeats 8000000 in
theorem head10_any (w : World) (hg : EC w) : Calls Tryz.prog 14 #[] w fun e w' => e = .returned (.bool true) ∧ Below w.heap.size w w' := by
  have hB1 : 1 ≤ w.heap.size := lt_of_cell hg
  have hma : ∀ W a c, Ps W a tabL → Calls Tryz.prog 15 #[.slice a 4 c] W
      fun e w' => (∃ p fb, e = .returned (.pointer (some ⟨p, 0, none⟩)) ∧ GM w' p fb h16 16 (puts tabL) ∧ W.heap.size ≤ p ∧ W.heap.size ≤ fb) ∧ Below W.heap.size W w' := fun W a c hp => made_any W a c tabL hp (by decide)
  have HMa := Lib.hid hma
  have HE := Lib.hid hg
  have HB1 := Lib.hid hB1
  clear hg hB1 hma
  go_enter Tryz.func14, Tryz.ntmps14
  go_wp2_with (first
    | (go_at_call 54; (with_reducible refine (tables_any _).mono ?_); rintro e W ⟨⟨ta, tc, rfl, tp⟩, tb⟩)
    | (go_at_call 15; (with_reducible refine (HMa.out _ _ _ tp).mono ?_); rintro e W0 ⟨⟨gp, fb, rfl, G0, g1, g2⟩, b0⟩; have A0 := tb.trans (b0.mono tb.size); have hfb := Nat.le_trans tb.size g2)
    | (go_at_call 16; (with_reducible refine (new_mm _ gp fb _ 1 G0 (by decide +kernel) w.heap.size A0.size hfb).mono ?_); rintro e W1 ⟨⟨p, tp, rfl, M1⟩, b1⟩; have A1 := A0.trans (b1.mono A0.size); have E1 := HE.out.low A1 HB1.out; clear tb b0 A0 hfb b1 g1 g2 G0)
    | (go_at_call 22; have m := M1; have a' := A1; have e' := E1; (with_reducible refine (hc1 m e' HB1.out a'.size).mono ?_); rintro e W2 ⟨he, D⟩; subst he; have M2 : MM w.heap.size [] W2 p tp gp fb hd1 := D.1; have A2 := a'.trans D.2.1; have E2 := HE.out.low A2 HB1.out; clear D; clear m a' e' M1 A1 E1)
    | (go_at_call 22; have m := M2.past (bal W2 (.cells #[.int .i64 0, .int .u64 0, .int .i64 0, .int .u64 0] 34)); have a' := A2.trans ((bal W2 (.cells #[.int .i64 0, .int .u64 0, .int .i64 0, .int .u64 0] 34)).mono A2.size); have e' := E2.past (bal W2 (.cells #[.int .i64 0, .int .u64 0, .int .i64 0, .int .u64 0] 34)); have Xa := Blk.new W2 34 [.int .i64 0, .int .u64 0, .int .i64 0, .int .u64 0]; (with_reducible refine (hc2 m e' HB1.out a'.size).mono ?_); rintro e W3 ⟨he, D⟩; subst he; have M3 : MM w.heap.size [] W3 p tp gp fb hd2 := D.1; have A3 := a'.trans D.2.1; have E3 := HE.out.low A3 HB1.out; have Xa := D.2.2.blk Xa ⟨by decide, by decide, by decide, by decide⟩; clear D; clear m a' e' M2 A2 E2)
    | (go_at_call 22; have m := M3.past (bal W3 (.cells #[.int .i64 0, .int .u64 0, .int .i64 0, .int .u64 0] 34)); have a' := A3.trans ((bal W3 (.cells #[.int .i64 0, .int .u64 0, .int .i64 0, .int .u64 0] 34)).mono A3.size); have e' := E3.past (bal W3 (.cells #[.int .i64 0, .int .u64 0, .int .i64 0, .int .u64 0] 34)); have Xa := Xa.past (bal W3 (.cells #[.int .i64 0, .int .u64 0, .int .i64 0, .int .u64 0] 34)); have Xb := Blk.new W3 34 [.int .i64 0, .int .u64 0, .int .i64 0, .int .u64 0]; (with_reducible refine (hc3 m e' HB1.out a'.size).mono ?_); rintro e W4 ⟨he, D⟩; subst he; have M4 : MM w.heap.size [] W4 p tp gp fb hd3 := D.1; have A4 := a'.trans D.2.1; have E4 := HE.out.low A4 HB1.out; have Xa := D.2.2.blk Xa ⟨by decide, by decide, by decide, by decide⟩; have Xb := D.2.2.blk Xb ⟨by decide, by decide, by decide, by decide⟩; clear D; clear m a' e' M3 A3 E3)
    | (go_at_call 21; have m := M4.past (bal W4 (.cells #[.int .i64 0, .int .u64 77, .int .i64 0, .int .u64 0] 34)); have a' := A4.trans ((bal W4 (.cells #[.int .i64 0, .int .u64 77, .int .i64 0, .int .u64 0] 34)).mono A4.size); have e' := E4.past (bal W4 (.cells #[.int .i64 0, .int .u64 77, .int .i64 0, .int .u64 0] 34)); have Xa := Xa.past (bal W4 (.cells #[.int .i64 0, .int .u64 77, .int .i64 0, .int .u64 0] 34)); have Xb := Xb.past (bal W4 (.cells #[.int .i64 0, .int .u64 77, .int .i64 0, .int .u64 0] 34)); have Xc := Blk.new W4 34 [.int .i64 0, .int .u64 77, .int .i64 0, .int .u64 0]; (with_reducible refine (gm_get_bel m.gm 3 0 _ hf4).mono ?_); rintro e W5 ⟨he, b⟩; simp only [Option.getD_some, Option.isSome_some] at he; subst he; have M5 := m.past b; have A5 := a'.trans (b.mono a'.size); have E5 := e'.past b; have Xa := Xa.past b; have Xb := Xb.past b; have Xc := Xc.past b; clear b; clear m a' e' M4 A4 E4)
    | (go_at_call 22; have m := M5; have a' := A5; have e' := E5; (with_reducible refine (hc5 m e' HB1.out a'.size).mono ?_); rintro e W6 ⟨he, D⟩; subst he; have M6 : MM w.heap.size [] W6 p tp gp fb hd4 := D.1; have A6 := a'.trans D.2.1; have E6 := HE.out.low A6 HB1.out; have Xa := D.2.2.blk Xa ⟨by decide, by decide, by decide, by decide⟩; have Xb := D.2.2.blk Xb ⟨by decide, by decide, by decide, by decide⟩; have Xc := D.2.2.blk Xc ⟨by decide, by decide, by decide, by decide⟩; clear D; clear m a' e' M5 A5 E5)
    | (go_at_call 22; have m := M6.past (bal W6 (.cells #[.int .i64 1, .int .u64 0, .int .i64 7, .int .u64 64] 34)); have a' := A6.trans ((bal W6 (.cells #[.int .i64 1, .int .u64 0, .int .i64 7, .int .u64 64] 34)).mono A6.size); have e' := E6.past (bal W6 (.cells #[.int .i64 1, .int .u64 0, .int .i64 7, .int .u64 64] 34)); have Xa := Xa.past (bal W6 (.cells #[.int .i64 1, .int .u64 0, .int .i64 7, .int .u64 64] 34)); have Xb := Xb.past (bal W6 (.cells #[.int .i64 1, .int .u64 0, .int .i64 7, .int .u64 64] 34)); have Xc := Xc.past (bal W6 (.cells #[.int .i64 1, .int .u64 0, .int .i64 7, .int .u64 64] 34)); have Xd := Blk.new W6 34 [.int .i64 1, .int .u64 0, .int .i64 7, .int .u64 64]; (with_reducible refine (hc6 m e' HB1.out a'.size).mono ?_); rintro e W7 ⟨he, D⟩; subst he; have M7 : MM w.heap.size [] W7 p tp gp fb hd5 := D.1; have A7 := a'.trans D.2.1; have E7 := HE.out.low A7 HB1.out; have Xa := D.2.2.blk Xa ⟨by decide, by decide, by decide, by decide⟩; have Xb := D.2.2.blk Xb ⟨by decide, by decide, by decide, by decide⟩; have Xc := D.2.2.blk Xc ⟨by decide, by decide, by decide, by decide⟩; have Xd := D.2.2.blk Xd ⟨by decide, by decide, by decide, by decide⟩; clear D; clear m a' e' M6 A6 E6)
    | (go_at_call 22; have m := M7.past (bal W7 (.cells #[.int .i64 4, .int .u64 0, .int .i64 0, .int .u64 4] 34)); have a' := A7.trans ((bal W7 (.cells #[.int .i64 4, .int .u64 0, .int .i64 0, .int .u64 4] 34)).mono A7.size); have e' := E7.past (bal W7 (.cells #[.int .i64 4, .int .u64 0, .int .i64 0, .int .u64 4] 34)); have Xa := Xa.past (bal W7 (.cells #[.int .i64 4, .int .u64 0, .int .i64 0, .int .u64 4] 34)); have Xb := Xb.past (bal W7 (.cells #[.int .i64 4, .int .u64 0, .int .i64 0, .int .u64 4] 34)); have Xc := Xc.past (bal W7 (.cells #[.int .i64 4, .int .u64 0, .int .i64 0, .int .u64 4] 34)); have Xd := Xd.past (bal W7 (.cells #[.int .i64 4, .int .u64 0, .int .i64 0, .int .u64 4] 34)); have Xe := Blk.new W7 34 [.int .i64 4, .int .u64 0, .int .i64 0, .int .u64 4]; (with_reducible refine (hc7 m e' HB1.out a'.size).mono ?_); rintro e W8 ⟨he, D⟩; subst he; have M8 : MM w.heap.size [] W8 p tp gp fb hd6 := D.1; have A8 := a'.trans D.2.1; have E8 := HE.out.low A8 HB1.out; have Xa := D.2.2.blk Xa ⟨by decide, by decide, by decide, by decide⟩; have Xb := D.2.2.blk Xb ⟨by decide, by decide, by decide, by decide⟩; have Xc := D.2.2.blk Xc ⟨by decide, by decide, by decide, by decide⟩; have Xd := D.2.2.blk Xd ⟨by decide, by decide, by decide, by decide⟩; have Xe := D.2.2.blk Xe ⟨by decide, by decide, by decide, by decide⟩; clear D; clear m a' e' M7 A7 E7)
    | (go_at_call 27; have m := M8.past (bal W8 (.cells #[.int .i64 2, .int .u64 0, .int .i64 0, .int .u64 1048576] 34)); have a' := A8.trans ((bal W8 (.cells #[.int .i64 2, .int .u64 0, .int .i64 0, .int .u64 1048576] 34)).mono A8.size); have e' := E8.past (bal W8 (.cells #[.int .i64 2, .int .u64 0, .int .i64 0, .int .u64 1048576] 34)); have Xa := Xa.past (bal W8 (.cells #[.int .i64 2, .int .u64 0, .int .i64 0, .int .u64 1048576] 34)); have Xb := Xb.past (bal W8 (.cells #[.int .i64 2, .int .u64 0, .int .i64 0, .int .u64 1048576] 34)); have Xc := Xc.past (bal W8 (.cells #[.int .i64 2, .int .u64 0, .int .i64 0, .int .u64 1048576] 34)); have Xd := Xd.past (bal W8 (.cells #[.int .i64 2, .int .u64 0, .int .i64 0, .int .u64 1048576] 34)); have Xe := Xe.past (bal W8 (.cells #[.int .i64 2, .int .u64 0, .int .i64 0, .int .u64 1048576] 34)); have Xf := Blk.new W8 34 [.int .i64 2, .int .u64 0, .int .i64 0, .int .u64 1048576]; (with_reducible refine (hc8 m e' HB1.out a'.size).mono ?_); rintro e W9 ⟨he, D⟩; subst he; have M9 : MM w.heap.size [] W9 p tp gp fb hd7 := D.1; have A9 := a'.trans D.2.1; have E9 := HE.out.low A9 HB1.out; have Xa := D.2.2.blk Xa ⟨by decide, by decide, by decide, by decide⟩; have Xb := D.2.2.blk Xb ⟨by decide, by decide, by decide, by decide⟩; have Xc := D.2.2.blk Xc ⟨by decide, by decide, by decide, by decide⟩; have Xd := D.2.2.blk Xd ⟨by decide, by decide, by decide, by decide⟩; have Xe := D.2.2.blk Xe ⟨by decide, by decide, by decide, by decide⟩; have Xf := D.2.2.blk Xf ⟨by decide, by decide, by decide, by decide⟩; clear D; clear m a' e' M8 A8 E8)
    | (go_at_call 22; have m := M9; have a' := A9; have e' := E9; (with_reducible refine (hc9 m e' HB1.out a'.size).mono ?_); rintro e W10 ⟨he, D⟩; subst he; have M10 : MM w.heap.size [] W10 p tp gp fb hd8 := D.1; have A10 := a'.trans D.2.1; have E10 := HE.out.low A10 HB1.out; have Xa := D.2.2.blk Xa ⟨by decide, by decide, by decide, by decide⟩; have Xb := D.2.2.blk Xb ⟨by decide, by decide, by decide, by decide⟩; have Xc := D.2.2.blk Xc ⟨by decide, by decide, by decide, by decide⟩; have Xd := D.2.2.blk Xd ⟨by decide, by decide, by decide, by decide⟩; have Xe := D.2.2.blk Xe ⟨by decide, by decide, by decide, by decide⟩; have Xf := D.2.2.blk Xf ⟨by decide, by decide, by decide, by decide⟩; clear D; clear m a' e' M9 A9 E9)
    | (go_at_call 19; have m := M10.past (bal W10 (.cells #[.int .i64 0, .int .u64 77, .int .i64 0, .int .u64 0] 34)); have a' := A10.trans ((bal W10 (.cells #[.int .i64 0, .int .u64 77, .int .i64 0, .int .u64 0] 34)).mono A10.size); have e' := E10.past (bal W10 (.cells #[.int .i64 0, .int .u64 77, .int .i64 0, .int .u64 0] 34)); have Xa := Xa.past (bal W10 (.cells #[.int .i64 0, .int .u64 77, .int .i64 0, .int .u64 0] 34)); have Xb := Xb.past (bal W10 (.cells #[.int .i64 0, .int .u64 77, .int .i64 0, .int .u64 0] 34)); have Xc := Xc.past (bal W10 (.cells #[.int .i64 0, .int .u64 77, .int .i64 0, .int .u64 0] 34)); have Xd := Xd.past (bal W10 (.cells #[.int .i64 0, .int .u64 77, .int .i64 0, .int .u64 0] 34)); have Xe := Xe.past (bal W10 (.cells #[.int .i64 0, .int .u64 77, .int .i64 0, .int .u64 0] 34)); have Xf := Xf.past (bal W10 (.cells #[.int .i64 0, .int .u64 77, .int .i64 0, .int .u64 0] 34)); have Xh := Blk.new W10 34 [.int .i64 0, .int .u64 77, .int .i64 0, .int .u64 0]; (with_reducible refine (forget_mm m a'.size 0).mono ?_); rintro e W11 ⟨he, D⟩; rw [hf10] at he; subst he; have M11 : MM w.heap.size [] W11 p tp gp fb hd9 := D.1; have A11 := a'.trans D.2.1; have E11 := HE.out.low A11 HB1.out; have Xa := D.2.2.blk Xa ⟨by decide, by decide, by decide, by decide⟩; have Xb := D.2.2.blk Xb ⟨by decide, by decide, by decide, by decide⟩; have Xc := D.2.2.blk Xc ⟨by decide, by decide, by decide, by decide⟩; have Xd := D.2.2.blk Xd ⟨by decide, by decide, by decide, by decide⟩; have Xe := D.2.2.blk Xe ⟨by decide, by decide, by decide, by decide⟩; have Xf := D.2.2.blk Xf ⟨by decide, by decide, by decide, by decide⟩; have Xh := D.2.2.blk Xh ⟨by decide, by decide, by decide, by decide⟩; clear D; clear m a' e' M10 A10 E10)
    | (go_at_call 22; have m := M11; have a' := A11; have e' := E11; (with_reducible refine (hc11 m e' HB1.out a'.size).mono ?_); rintro e W12 ⟨he, D⟩; subst he; have M12 : MM w.heap.size [] W12 p tp gp fb hd10 := D.1; have A12 := a'.trans D.2.1; have E12 := HE.out.low A12 HB1.out; have Xa := D.2.2.blk Xa ⟨by decide, by decide, by decide, by decide⟩; have Xb := D.2.2.blk Xb ⟨by decide, by decide, by decide, by decide⟩; have Xc := D.2.2.blk Xc ⟨by decide, by decide, by decide, by decide⟩; have Xd := D.2.2.blk Xd ⟨by decide, by decide, by decide, by decide⟩; have Xe := D.2.2.blk Xe ⟨by decide, by decide, by decide, by decide⟩; have Xf := D.2.2.blk Xf ⟨by decide, by decide, by decide, by decide⟩; have Xh := D.2.2.blk Xh ⟨by decide, by decide, by decide, by decide⟩; clear D; clear m a' e' M11 A11 E11)
    | (go_at_call 27; have m := M12.past (bal W12 (.cells #[.int .i64 1, .int .u64 0, .int .i64 4, .int .u64 8] 34)); have a' := A12.trans ((bal W12 (.cells #[.int .i64 1, .int .u64 0, .int .i64 4, .int .u64 8] 34)).mono A12.size); have e' := E12.past (bal W12 (.cells #[.int .i64 1, .int .u64 0, .int .i64 4, .int .u64 8] 34)); have Xa := Xa.past (bal W12 (.cells #[.int .i64 1, .int .u64 0, .int .i64 4, .int .u64 8] 34)); have Xb := Xb.past (bal W12 (.cells #[.int .i64 1, .int .u64 0, .int .i64 4, .int .u64 8] 34)); have Xc := Xc.past (bal W12 (.cells #[.int .i64 1, .int .u64 0, .int .i64 4, .int .u64 8] 34)); have Xd := Xd.past (bal W12 (.cells #[.int .i64 1, .int .u64 0, .int .i64 4, .int .u64 8] 34)); have Xe := Xe.past (bal W12 (.cells #[.int .i64 1, .int .u64 0, .int .i64 4, .int .u64 8] 34)); have Xf := Xf.past (bal W12 (.cells #[.int .i64 1, .int .u64 0, .int .i64 4, .int .u64 8] 34)); have Xh := Xh.past (bal W12 (.cells #[.int .i64 1, .int .u64 0, .int .i64 4, .int .u64 8] 34)); have Xj := Blk.new W12 34 [.int .i64 1, .int .u64 0, .int .i64 4, .int .u64 8]; (with_reducible refine (hc12 m e' HB1.out a'.size).mono ?_); rintro e W13 ⟨he, D⟩; subst he; have M13 : MM w.heap.size [] W13 p tp gp fb hd11 := D.1; have A13 := a'.trans D.2.1; have E13 := HE.out.low A13 HB1.out; have Xa := D.2.2.blk Xa ⟨by decide, by decide, by decide, by decide⟩; have Xb := D.2.2.blk Xb ⟨by decide, by decide, by decide, by decide⟩; have Xc := D.2.2.blk Xc ⟨by decide, by decide, by decide, by decide⟩; have Xd := D.2.2.blk Xd ⟨by decide, by decide, by decide, by decide⟩; have Xe := D.2.2.blk Xe ⟨by decide, by decide, by decide, by decide⟩; have Xf := D.2.2.blk Xf ⟨by decide, by decide, by decide, by decide⟩; have Xh := D.2.2.blk Xh ⟨by decide, by decide, by decide, by decide⟩; have Xj := D.2.2.blk Xj ⟨by decide, by decide, by decide, by decide⟩; clear D; clear m a' e' M12 A12 E12; have xa0 := Xa.cell (k := 0) rfl; have xa1 := Xa.cell (k := 1) rfl; have xa2 := Xa.cell (k := 2) rfl; have xa3 := Xa.cell (k := 3) rfl; have xal := Xa.lt; have xb0 := Xb.cell (k := 0) rfl; have xb1 := Xb.cell (k := 1) rfl; have xb2 := Xb.cell (k := 2) rfl; have xb3 := Xb.cell (k := 3) rfl; have xbl := Xb.lt; have xc0 := Xc.cell (k := 0) rfl; have xc1 := Xc.cell (k := 1) rfl; have xc2 := Xc.cell (k := 2) rfl; have xc3 := Xc.cell (k := 3) rfl; have xcl := Xc.lt; have xd0 := Xd.cell (k := 0) rfl; have xd1 := Xd.cell (k := 1) rfl; have xd2 := Xd.cell (k := 2) rfl; have xd3 := Xd.cell (k := 3) rfl; have xdl := Xd.lt; have xe0 := Xe.cell (k := 0) rfl; have xe1 := Xe.cell (k := 1) rfl; have xe2 := Xe.cell (k := 2) rfl; have xe3 := Xe.cell (k := 3) rfl; have xel := Xe.lt; have xf0 := Xf.cell (k := 0) rfl; have xf1 := Xf.cell (k := 1) rfl; have xf2 := Xf.cell (k := 2) rfl; have xf3 := Xf.cell (k := 3) rfl; have xfl := Xf.lt; have xh0 := Xh.cell (k := 0) rfl; have xh1 := Xh.cell (k := 1) rfl; have xh2 := Xh.cell (k := 2) rfl; have xh3 := Xh.cell (k := 3) rfl; have xhl := Xh.lt; have xj0 := Xj.cell (k := 0) rfl; have xj1 := Xj.cell (k := 1) rfl; have xj2 := Xj.cell (k := 2) rfl; have xj3 := Xj.cell (k := 3) rfl; have xjl := Xj.lt)
    | (go_at_call 37; (with_reducible refine (mall_mm (M13.past (bal W13 (.cells #[.int .i64 3, .int .u64 0, .int .i64 0, .int .u64 0] 34)))).mono ?_); rintro e W14 ⟨⟨v, rfl, hr⟩, b⟩; rw [hfz] at hr; obtain ⟨q, c, rfl⟩ := hr.slice; have A14 := A13.trans (((bal W13 (.cells #[.int .i64 3, .int .u64 0, .int .i64 0, .int .u64 0] 34)).trans (b.mono (bal W13 (.cells #[.int .i64 3, .int .u64 0, .int .i64 0, .int .u64 0] 34)).size)).mono A13.size)))
  go_ret
  exact ⟨rfl, A14⟩
end Go.Proofs.YtgaififhhffpfaaGreatDoor
