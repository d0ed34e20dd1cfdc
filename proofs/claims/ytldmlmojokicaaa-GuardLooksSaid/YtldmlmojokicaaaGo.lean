/- The law's do, each kind. The laws' Great. -/
import Derived.Test.YtldmlmojokicaaaGop
namespace Go.Proofs.Ytldmlmojokicaaa
open Go.RowKit Go.Shelf Go.Maps

set_option maxRecDepth 100000 in
set_option maxHeartbeats 2000000 in
theorem gdo_0 {w0 w : World} {A : GAd} {P : Pm} {V : GVl} {G : GS} {ts : List Thing} {wb : Nat} (H : HG w0 w A P V G (wld wb A :: ts)) (kg kv kr p i g : Int) (xw xu xx : Bool) (v : Nat) :
    Calls Try.prog 14 #[.pointer (some ⟨wb, 0, none⟩), .agg #[.int .i64 0, .int .i64 kg, .int .i64 kv, .int .i64 kr, .int .i64 p, .int .i64 i, .int .i64 g, .bool xw, .bool xu, .bool xx, .int .u64 (v : Int)]] w
      fun e w' => e = .returned (.tuple #[.int .i64 ((gmake P G ⟨kg, kv, kr⟩).1.getD 0, (gmake P G ⟨kg, kv, kr⟩).1.isSome).1, .bool ((gmake P G ⟨kg, kv, kr⟩).1.getD 0, (gmake P G ⟨kg, kv, kr⟩).1.isSome).2]) ∧ ∃ V', HG w0 w' A P V' ((gmake P G ⟨kg, kv, kr⟩).2) (wld wb A :: ts) := by
  have b0 := bal w (.cells #[.int .i64 0, .int .i64 kg, .int .i64 kv, .int .i64 kr, .int .i64 p, .int .i64 i, .int .i64 g, .bool xw, .bool xu, .bool xx, .int .u64 (v : Int)] 42)
  have hz := Blk.new w 42 [.int .i64 0, .int .i64 kg, .int .i64 kv, .int .i64 kr, .int .i64 p, .int .i64 i, .int .i64 g, .bool xw, .bool xu, .bool xx, .int .u64 (v : Int)]
  obtain ⟨wz, hwz⟩ : ∃ wz, w.alloc (.cells #[.int .i64 0, .int .i64 kg, .int .i64 kv, .int .i64 kr, .int .i64 p, .int .i64 i, .int .i64 g, .bool xw, .bool xu, .bool xx, .int .u64 (v : Int)] 42) = wz := ⟨_, rfl⟩
  rw [show (w.alloc (.cells ([.int .i64 0, .int .i64 kg, .int .i64 kv, .int .i64 kr, .int .i64 p, .int .i64 i, .int .i64 g, .bool xw, .bool xu, .bool xx, .int .u64 (v : Int)] : List Value).toArray 42)) = wz from hwz] at hz
  rw [hwz] at b0
  have H1 := H.add b0 (box w.heap.size 42 [.int .i64 0, .int .i64 kg, .int .i64 kv, .int .i64 kr, .int .i64 p, .int .i64 i, .int .i64 g, .bool xw, .bool xu, .bool xx, .int .u64 (v : Int)]) hz (fun b e => Nat.le_of_eq e.symm)
  obtain ⟨zb, hzb⟩ : ∃ zb, w.heap.size = zb := ⟨_, rfl⟩
  rw [hzb] at hz H1
  have z0 := hz.cell (k := 0) rfl
  have z1 := hz.cell (k := 1) rfl
  have z2 := hz.cell (k := 2) rfl
  have z3 := hz.cell (k := 3) rfl
  have lz := hz.lt
  have w4 := H1.wd2.cell (k := 4) rfl
  have lw := H1.wd2.lt
  have HH := Lib.hid H1
  have hc := gmake_h HH.out.drew kg kv kr
  have HC := Lib.hid hc
  have HW := Lib.hid hwz
  have HZB := Lib.hid hzb
  clear hc H1 H hwz hzb b0 hz
  go_enter Try.func14, Try.ntmps14
  go_wp2_with fail
  rw [HW.out, HZB.out]
  go_wp2_with fail
  go_region_held3 (fun w' => w'.cell? ⟨wb, 4, none⟩ = some (.pointer (some ⟨A.dp, 0, none⟩)) ∧ w'.cell? ⟨zb, 1, none⟩ = some (.int .i64 kg) ∧ w'.cell? ⟨zb, 2, none⟩ = some (.int .i64 kv) ∧ w'.cell? ⟨zb, 3, none⟩ = some (.int .i64 kr)) (go_keep) (first
    | (go_at_call 21; (with_reducible refine HC.out.mono ?_); rintro e W3 ⟨rfl, V3, h3⟩; have y1 := (show Blk W3 zb 42 _ from h3.top).cell (k := 1) rfl; have y2 := (show Blk W3 zb 42 _ from h3.top).cell (k := 2) rfl; have y3 := (show Blk W3 zb 42 _ from h3.top).cell (k := 3) rfl; have u4 := h3.wd2.cell (k := 4) rfl; have ul := h3.wd2.lt; have yl := (show Blk W3 zb 42 _ from h3.top).lt; have HH3 := Lib.hid h3; clear h3))
  all_goals go_wp2
  all_goals go_ret2
  all_goals exact ⟨rfl, V3, HH3.out.tail⟩
set_option maxRecDepth 100000 in
set_option maxHeartbeats 2000000 in
theorem gdo_1 {w0 w : World} {A : GAd} {P : Pm} {V : GVl} {G : GS} {ts : List Thing} {wb : Nat} (H : HG w0 w A P V G (wld wb A :: ts)) (kg kv kr p i g : Int) (xw xu xx : Bool) (v : Nat) :
    Calls Try.prog 14 #[.pointer (some ⟨wb, 0, none⟩), .agg #[.int .i64 1, .int .i64 kg, .int .i64 kv, .int .i64 kr, .int .i64 p, .int .i64 i, .int .i64 g, .bool xw, .bool xu, .bool xx, .int .u64 (v : Int)]] w
      fun e w' => e = .returned (.tuple #[.int .i64 ((gmake P G ⟨kg, kv, kr⟩).1.getD 0, (gmake P G ⟨kg, kv, kr⟩).1.isSome).1, .bool ((gmake P G ⟨kg, kv, kr⟩).1.getD 0, (gmake P G ⟨kg, kv, kr⟩).1.isSome).2]) ∧ ∃ V', HG w0 w' A P V' ((gmake P G ⟨kg, kv, kr⟩).2) (wld wb A :: ts) := by
  have b0 := bal w (.cells #[.int .i64 1, .int .i64 kg, .int .i64 kv, .int .i64 kr, .int .i64 p, .int .i64 i, .int .i64 g, .bool xw, .bool xu, .bool xx, .int .u64 (v : Int)] 42)
  have hz := Blk.new w 42 [.int .i64 1, .int .i64 kg, .int .i64 kv, .int .i64 kr, .int .i64 p, .int .i64 i, .int .i64 g, .bool xw, .bool xu, .bool xx, .int .u64 (v : Int)]
  obtain ⟨wz, hwz⟩ : ∃ wz, w.alloc (.cells #[.int .i64 1, .int .i64 kg, .int .i64 kv, .int .i64 kr, .int .i64 p, .int .i64 i, .int .i64 g, .bool xw, .bool xu, .bool xx, .int .u64 (v : Int)] 42) = wz := ⟨_, rfl⟩
  rw [show (w.alloc (.cells ([.int .i64 1, .int .i64 kg, .int .i64 kv, .int .i64 kr, .int .i64 p, .int .i64 i, .int .i64 g, .bool xw, .bool xu, .bool xx, .int .u64 (v : Int)] : List Value).toArray 42)) = wz from hwz] at hz
  rw [hwz] at b0
  have H1 := H.add b0 (box w.heap.size 42 [.int .i64 1, .int .i64 kg, .int .i64 kv, .int .i64 kr, .int .i64 p, .int .i64 i, .int .i64 g, .bool xw, .bool xu, .bool xx, .int .u64 (v : Int)]) hz (fun b e => Nat.le_of_eq e.symm)
  obtain ⟨zb, hzb⟩ : ∃ zb, w.heap.size = zb := ⟨_, rfl⟩
  rw [hzb] at hz H1
  have z0 := hz.cell (k := 0) rfl
  have z1 := hz.cell (k := 1) rfl
  have z2 := hz.cell (k := 2) rfl
  have z3 := hz.cell (k := 3) rfl
  have lz := hz.lt
  have w4 := H1.wd2.cell (k := 4) rfl
  have lw := H1.wd2.lt
  have HH := Lib.hid H1
  have hc := gmake_h HH.out.drew kg kv kr
  have HC := Lib.hid hc
  have HW := Lib.hid hwz
  have HZB := Lib.hid hzb
  clear hc H1 H hwz hzb b0 hz
  go_enter Try.func14, Try.ntmps14
  go_wp2_with fail
  rw [HW.out, HZB.out]
  go_wp2_with fail
  go_region_held3 (fun w' => w'.cell? ⟨wb, 4, none⟩ = some (.pointer (some ⟨A.dp, 0, none⟩)) ∧ w'.cell? ⟨zb, 1, none⟩ = some (.int .i64 kg) ∧ w'.cell? ⟨zb, 2, none⟩ = some (.int .i64 kv) ∧ w'.cell? ⟨zb, 3, none⟩ = some (.int .i64 kr)) (go_keep) (first
    | (go_at_call 21; (with_reducible refine HC.out.mono ?_); rintro e W3 ⟨rfl, V3, h3⟩; have y1 := (show Blk W3 zb 42 _ from h3.top).cell (k := 1) rfl; have y2 := (show Blk W3 zb 42 _ from h3.top).cell (k := 2) rfl; have y3 := (show Blk W3 zb 42 _ from h3.top).cell (k := 3) rfl; have u4 := h3.wd2.cell (k := 4) rfl; have ul := h3.wd2.lt; have yl := (show Blk W3 zb 42 _ from h3.top).lt; have HH3 := Lib.hid h3; clear h3))
  all_goals go_wp2
  all_goals go_ret2
  all_goals exact ⟨rfl, V3, HH3.out.tail⟩
set_option maxRecDepth 100000 in
set_option maxHeartbeats 2000000 in
theorem gdo_2 {w0 w : World} {A : GAd} {P : Pm} {V : GVl} {G : GS} {ts : List Thing} {wb : Nat} (H : HG w0 w A P V G (wld wb A :: ts)) (kg kv kr p i g : Int) (xw xu xx : Bool) (v : Nat) :
    Calls Try.prog 14 #[.pointer (some ⟨wb, 0, none⟩), .agg #[.int .i64 2, .int .i64 kg, .int .i64 kv, .int .i64 kr, .int .i64 p, .int .i64 i, .int .i64 g, .bool xw, .bool xu, .bool xx, .int .u64 (v : Int)]] w
      fun e w' => e = .returned (.tuple #[.int .i64 (0, (schild G.s p i g ⟨xw, xu, xx⟩).1).1, .bool (0, (schild G.s p i g ⟨xw, xu, xx⟩).1).2]) ∧ ∃ V', HG w0 w' A P V' ({ G with s := (schild G.s p i g ⟨xw, xu, xx⟩).2 }) (wld wb A :: ts) := by
  have b0 := bal w (.cells #[.int .i64 2, .int .i64 kg, .int .i64 kv, .int .i64 kr, .int .i64 p, .int .i64 i, .int .i64 g, .bool xw, .bool xu, .bool xx, .int .u64 (v : Int)] 42)
  have hz := Blk.new w 42 [.int .i64 2, .int .i64 kg, .int .i64 kv, .int .i64 kr, .int .i64 p, .int .i64 i, .int .i64 g, .bool xw, .bool xu, .bool xx, .int .u64 (v : Int)]
  obtain ⟨wz, hwz⟩ : ∃ wz, w.alloc (.cells #[.int .i64 2, .int .i64 kg, .int .i64 kv, .int .i64 kr, .int .i64 p, .int .i64 i, .int .i64 g, .bool xw, .bool xu, .bool xx, .int .u64 (v : Int)] 42) = wz := ⟨_, rfl⟩
  rw [show (w.alloc (.cells ([.int .i64 2, .int .i64 kg, .int .i64 kv, .int .i64 kr, .int .i64 p, .int .i64 i, .int .i64 g, .bool xw, .bool xu, .bool xx, .int .u64 (v : Int)] : List Value).toArray 42)) = wz from hwz] at hz
  rw [hwz] at b0
  have H1 := H.add b0 (box w.heap.size 42 [.int .i64 2, .int .i64 kg, .int .i64 kv, .int .i64 kr, .int .i64 p, .int .i64 i, .int .i64 g, .bool xw, .bool xu, .bool xx, .int .u64 (v : Int)]) hz (fun b e => Nat.le_of_eq e.symm)
  obtain ⟨zb, hzb⟩ : ∃ zb, w.heap.size = zb := ⟨_, rfl⟩
  rw [hzb] at hz H1
  have z0 := hz.cell (k := 0) rfl
  have z4 := hz.cell (k := 4) rfl
  have z5 := hz.cell (k := 5) rfl
  have z6 := hz.cell (k := 6) rfl
  have z7 := hz.cell (k := 7) rfl
  have z8 := hz.cell (k := 8) rfl
  have z9 := hz.cell (k := 9) rfl
  have lz := hz.lt
  have w2 := H1.wd2.cell (k := 2) rfl
  have lw := H1.wd2.lt
  have HH := Lib.hid H1
  have hc := child_h HH.out.drew p i g xw xu xx
  have HC := Lib.hid hc
  have HW := Lib.hid hwz
  have HZB := Lib.hid hzb
  clear hc H1 H hwz hzb b0 hz
  go_enter Try.func14, Try.ntmps14
  go_wp2_with fail
  rw [HW.out, HZB.out]
  go_wp2_with fail
  go_region_held3 (fun w' => w'.cell? ⟨wb, 2, none⟩ = some (.pointer (some ⟨A.sp, 0, none⟩)) ∧ w'.cell? ⟨zb, 4, none⟩ = some (.int .i64 p) ∧ w'.cell? ⟨zb, 5, none⟩ = some (.int .i64 i) ∧ w'.cell? ⟨zb, 6, none⟩ = some (.int .i64 g) ∧ w'.cell? ⟨zb, 7, none⟩ = some (.bool xw) ∧ w'.cell? ⟨zb, 8, none⟩ = some (.bool xu) ∧ w'.cell? ⟨zb, 9, none⟩ = some (.bool xx)) (go_keep) (first
    | (go_at_call 37; (with_reducible refine HC.out.mono ?_); rintro e W3 ⟨rfl, h3⟩; have y4 := (show Blk W3 zb 42 _ from h3.top).cell (k := 4) rfl; have y5 := (show Blk W3 zb 42 _ from h3.top).cell (k := 5) rfl; have y6 := (show Blk W3 zb 42 _ from h3.top).cell (k := 6) rfl; have y7 := (show Blk W3 zb 42 _ from h3.top).cell (k := 7) rfl; have y8 := (show Blk W3 zb 42 _ from h3.top).cell (k := 8) rfl; have y9 := (show Blk W3 zb 42 _ from h3.top).cell (k := 9) rfl; have u2 := h3.wd2.cell (k := 2) rfl; have ul := h3.wd2.lt; have yl := (show Blk W3 zb 42 _ from h3.top).lt; have HH3 := Lib.hid h3; clear h3))
  all_goals go_wp2
  all_goals go_ret2
  all_goals exact ⟨rfl, V, HH3.out.tail⟩
set_option maxRecDepth 100000 in
set_option maxHeartbeats 2000000 in
theorem gdo_3 {w0 w : World} {A : GAd} {P : Pm} {V : GVl} {G : GS} {ts : List Thing} {wb : Nat} (H : HG w0 w A P V G (wld wb A :: ts)) (kg kv kr p i g : Int) (xw xu xx : Bool) (v : Nat) :
    Calls Try.prog 14 #[.pointer (some ⟨wb, 0, none⟩), .agg #[.int .i64 3, .int .i64 kg, .int .i64 kv, .int .i64 kr, .int .i64 p, .int .i64 i, .int .i64 g, .bool xw, .bool xu, .bool xx, .int .u64 (v : Int)]] w
      fun e w' => e = .returned (.tuple #[.int .i64 (0, (schild G.s p i g ⟨xw, xu, xx⟩).1).1, .bool (0, (schild G.s p i g ⟨xw, xu, xx⟩).1).2]) ∧ ∃ V', HG w0 w' A P V' ({ G with s := (schild G.s p i g ⟨xw, xu, xx⟩).2 }) (wld wb A :: ts) := by
  have b0 := bal w (.cells #[.int .i64 3, .int .i64 kg, .int .i64 kv, .int .i64 kr, .int .i64 p, .int .i64 i, .int .i64 g, .bool xw, .bool xu, .bool xx, .int .u64 (v : Int)] 42)
  have hz := Blk.new w 42 [.int .i64 3, .int .i64 kg, .int .i64 kv, .int .i64 kr, .int .i64 p, .int .i64 i, .int .i64 g, .bool xw, .bool xu, .bool xx, .int .u64 (v : Int)]
  obtain ⟨wz, hwz⟩ : ∃ wz, w.alloc (.cells #[.int .i64 3, .int .i64 kg, .int .i64 kv, .int .i64 kr, .int .i64 p, .int .i64 i, .int .i64 g, .bool xw, .bool xu, .bool xx, .int .u64 (v : Int)] 42) = wz := ⟨_, rfl⟩
  rw [show (w.alloc (.cells ([.int .i64 3, .int .i64 kg, .int .i64 kv, .int .i64 kr, .int .i64 p, .int .i64 i, .int .i64 g, .bool xw, .bool xu, .bool xx, .int .u64 (v : Int)] : List Value).toArray 42)) = wz from hwz] at hz
  rw [hwz] at b0
  have H1 := H.add b0 (box w.heap.size 42 [.int .i64 3, .int .i64 kg, .int .i64 kv, .int .i64 kr, .int .i64 p, .int .i64 i, .int .i64 g, .bool xw, .bool xu, .bool xx, .int .u64 (v : Int)]) hz (fun b e => Nat.le_of_eq e.symm)
  obtain ⟨zb, hzb⟩ : ∃ zb, w.heap.size = zb := ⟨_, rfl⟩
  rw [hzb] at hz H1
  have z0 := hz.cell (k := 0) rfl
  have z4 := hz.cell (k := 4) rfl
  have z5 := hz.cell (k := 5) rfl
  have z6 := hz.cell (k := 6) rfl
  have z7 := hz.cell (k := 7) rfl
  have z8 := hz.cell (k := 8) rfl
  have z9 := hz.cell (k := 9) rfl
  have lz := hz.lt
  have w2 := H1.wd2.cell (k := 2) rfl
  have lw := H1.wd2.lt
  have HH := Lib.hid H1
  have hc := child_h HH.out.drew p i g xw xu xx
  have HC := Lib.hid hc
  have HW := Lib.hid hwz
  have HZB := Lib.hid hzb
  clear hc H1 H hwz hzb b0 hz
  go_enter Try.func14, Try.ntmps14
  go_wp2_with fail
  rw [HW.out, HZB.out]
  go_wp2_with fail
  go_region_held3 (fun w' => w'.cell? ⟨wb, 2, none⟩ = some (.pointer (some ⟨A.sp, 0, none⟩)) ∧ w'.cell? ⟨zb, 4, none⟩ = some (.int .i64 p) ∧ w'.cell? ⟨zb, 5, none⟩ = some (.int .i64 i) ∧ w'.cell? ⟨zb, 6, none⟩ = some (.int .i64 g) ∧ w'.cell? ⟨zb, 7, none⟩ = some (.bool xw) ∧ w'.cell? ⟨zb, 8, none⟩ = some (.bool xu) ∧ w'.cell? ⟨zb, 9, none⟩ = some (.bool xx)) (go_keep) (first
    | (go_at_call 37; (with_reducible refine HC.out.mono ?_); rintro e W3 ⟨rfl, h3⟩; have y4 := (show Blk W3 zb 42 _ from h3.top).cell (k := 4) rfl; have y5 := (show Blk W3 zb 42 _ from h3.top).cell (k := 5) rfl; have y6 := (show Blk W3 zb 42 _ from h3.top).cell (k := 6) rfl; have y7 := (show Blk W3 zb 42 _ from h3.top).cell (k := 7) rfl; have y8 := (show Blk W3 zb 42 _ from h3.top).cell (k := 8) rfl; have y9 := (show Blk W3 zb 42 _ from h3.top).cell (k := 9) rfl; have u2 := h3.wd2.cell (k := 2) rfl; have ul := h3.wd2.lt; have yl := (show Blk W3 zb 42 _ from h3.top).lt; have HH3 := Lib.hid h3; clear h3))
  all_goals go_wp2
  all_goals go_ret2
  all_goals exact ⟨rfl, V, HH3.out.tail⟩
set_option maxRecDepth 100000 in
set_option maxHeartbeats 2000000 in
theorem gdo_4 {w0 w : World} {A : GAd} {P : Pm} {V : GVl} {G : GS} {ts : List Thing} {wb : Nat} (H : HG w0 w A P V G (wld wb A :: ts)) (kg kv kr p i g : Int) (xw xu xx : Bool) (v : Nat) :
    Calls Try.prog 14 #[.pointer (some ⟨wb, 0, none⟩), .agg #[.int .i64 4, .int .i64 kg, .int .i64 kv, .int .i64 kr, .int .i64 p, .int .i64 i, .int .i64 g, .bool xw, .bool xu, .bool xx, .int .u64 (v : Int)]] w
      fun e w' => e = .returned (.tuple #[.int .i64 (0, (sleaf P.n G.s p i g (hof g) ⟨xw, xu, xx⟩).1).1, .bool (0, (sleaf P.n G.s p i g (hof g) ⟨xw, xu, xx⟩).1).2]) ∧ ∃ V', HG w0 w' A P V' ({ G with s := (sleaf P.n G.s p i g (hof g) ⟨xw, xu, xx⟩).2 }) (wld wb A :: ts) := by
  have b0 := bal w (.cells #[.int .i64 4, .int .i64 kg, .int .i64 kv, .int .i64 kr, .int .i64 p, .int .i64 i, .int .i64 g, .bool xw, .bool xu, .bool xx, .int .u64 (v : Int)] 42)
  have hz := Blk.new w 42 [.int .i64 4, .int .i64 kg, .int .i64 kv, .int .i64 kr, .int .i64 p, .int .i64 i, .int .i64 g, .bool xw, .bool xu, .bool xx, .int .u64 (v : Int)]
  obtain ⟨wz, hwz⟩ : ∃ wz, w.alloc (.cells #[.int .i64 4, .int .i64 kg, .int .i64 kv, .int .i64 kr, .int .i64 p, .int .i64 i, .int .i64 g, .bool xw, .bool xu, .bool xx, .int .u64 (v : Int)] 42) = wz := ⟨_, rfl⟩
  rw [show (w.alloc (.cells ([.int .i64 4, .int .i64 kg, .int .i64 kv, .int .i64 kr, .int .i64 p, .int .i64 i, .int .i64 g, .bool xw, .bool xu, .bool xx, .int .u64 (v : Int)] : List Value).toArray 42)) = wz from hwz] at hz
  rw [hwz] at b0
  have H1 := H.add b0 (box w.heap.size 42 [.int .i64 4, .int .i64 kg, .int .i64 kv, .int .i64 kr, .int .i64 p, .int .i64 i, .int .i64 g, .bool xw, .bool xu, .bool xx, .int .u64 (v : Int)]) hz (fun b e => Nat.le_of_eq e.symm)
  obtain ⟨zb, hzb⟩ : ∃ zb, w.heap.size = zb := ⟨_, rfl⟩
  rw [hzb] at hz H1
  have z0 := hz.cell (k := 0) rfl
  have z4 := hz.cell (k := 4) rfl
  have z5 := hz.cell (k := 5) rfl
  have z6 := hz.cell (k := 6) rfl
  have z7 := hz.cell (k := 7) rfl
  have z8 := hz.cell (k := 8) rfl
  have z9 := hz.cell (k := 9) rfl
  have lz := hz.lt
  have w2 := H1.wd2.cell (k := 2) rfl
  have lw := H1.wd2.lt
  have HH := Lib.hid H1
  have hc := leaf_h HH.out.drew p i g (hof g) xw xu xx
  rw [show hof g = IntKind.i64.wrap (24 + bits .and .i64 g 15) from rfl] at hc
  have HC := Lib.hid hc
  have HW := Lib.hid hwz
  have HZB := Lib.hid hzb
  clear hc H1 H hwz hzb b0 hz
  go_enter Try.func14, Try.ntmps14
  go_wp2_with fail
  rw [HW.out, HZB.out]
  go_wp2_with fail
  go_region_held3 (fun w' => w'.cell? ⟨wb, 2, none⟩ = some (.pointer (some ⟨A.sp, 0, none⟩)) ∧ w'.cell? ⟨zb, 4, none⟩ = some (.int .i64 p) ∧ w'.cell? ⟨zb, 5, none⟩ = some (.int .i64 i) ∧ w'.cell? ⟨zb, 6, none⟩ = some (.int .i64 g) ∧ w'.cell? ⟨zb, 7, none⟩ = some (.bool xw) ∧ w'.cell? ⟨zb, 8, none⟩ = some (.bool xu) ∧ w'.cell? ⟨zb, 9, none⟩ = some (.bool xx)) (go_keep) (first
    | (go_at_call 38; (with_reducible refine HC.out.mono ?_); rintro e W3 ⟨rfl, h3⟩; have y4 := (show Blk W3 zb 42 _ from h3.top).cell (k := 4) rfl; have y5 := (show Blk W3 zb 42 _ from h3.top).cell (k := 5) rfl; have y6 := (show Blk W3 zb 42 _ from h3.top).cell (k := 6) rfl; have y7 := (show Blk W3 zb 42 _ from h3.top).cell (k := 7) rfl; have y8 := (show Blk W3 zb 42 _ from h3.top).cell (k := 8) rfl; have y9 := (show Blk W3 zb 42 _ from h3.top).cell (k := 9) rfl; have u2 := h3.wd2.cell (k := 2) rfl; have ul := h3.wd2.lt; have yl := (show Blk W3 zb 42 _ from h3.top).lt; have HH3 := Lib.hid h3; clear h3))
  all_goals go_wp2
  all_goals go_ret2
  all_goals exact ⟨rfl, V, HH3.out.tail⟩
set_option maxRecDepth 100000 in
set_option maxHeartbeats 2000000 in
theorem gdo_5 {w0 w : World} {A : GAd} {P : Pm} {V : GVl} {G : GS} {ts : List Thing} {wb : Nat} (H : HG w0 w A P V G (wld wb A :: ts)) (kg kv kr p i g : Int) (xw xu xx : Bool) (v : Nat) :
    Calls Try.prog 14 #[.pointer (some ⟨wb, 0, none⟩), .agg #[.int .i64 5, .int .i64 kg, .int .i64 kv, .int .i64 kr, .int .i64 p, .int .i64 i, .int .i64 g, .bool xw, .bool xu, .bool xx, .int .u64 (v : Int)]] w
      fun e w' => e = .returned (.tuple #[.int .i64 (0, (sleaf P.n G.s p i g (hof g) ⟨xw, xu, xx⟩).1).1, .bool (0, (sleaf P.n G.s p i g (hof g) ⟨xw, xu, xx⟩).1).2]) ∧ ∃ V', HG w0 w' A P V' ({ G with s := (sleaf P.n G.s p i g (hof g) ⟨xw, xu, xx⟩).2 }) (wld wb A :: ts) := by
  have b0 := bal w (.cells #[.int .i64 5, .int .i64 kg, .int .i64 kv, .int .i64 kr, .int .i64 p, .int .i64 i, .int .i64 g, .bool xw, .bool xu, .bool xx, .int .u64 (v : Int)] 42)
  have hz := Blk.new w 42 [.int .i64 5, .int .i64 kg, .int .i64 kv, .int .i64 kr, .int .i64 p, .int .i64 i, .int .i64 g, .bool xw, .bool xu, .bool xx, .int .u64 (v : Int)]
  obtain ⟨wz, hwz⟩ : ∃ wz, w.alloc (.cells #[.int .i64 5, .int .i64 kg, .int .i64 kv, .int .i64 kr, .int .i64 p, .int .i64 i, .int .i64 g, .bool xw, .bool xu, .bool xx, .int .u64 (v : Int)] 42) = wz := ⟨_, rfl⟩
  rw [show (w.alloc (.cells ([.int .i64 5, .int .i64 kg, .int .i64 kv, .int .i64 kr, .int .i64 p, .int .i64 i, .int .i64 g, .bool xw, .bool xu, .bool xx, .int .u64 (v : Int)] : List Value).toArray 42)) = wz from hwz] at hz
  rw [hwz] at b0
  have H1 := H.add b0 (box w.heap.size 42 [.int .i64 5, .int .i64 kg, .int .i64 kv, .int .i64 kr, .int .i64 p, .int .i64 i, .int .i64 g, .bool xw, .bool xu, .bool xx, .int .u64 (v : Int)]) hz (fun b e => Nat.le_of_eq e.symm)
  obtain ⟨zb, hzb⟩ : ∃ zb, w.heap.size = zb := ⟨_, rfl⟩
  rw [hzb] at hz H1
  have z0 := hz.cell (k := 0) rfl
  have z4 := hz.cell (k := 4) rfl
  have z5 := hz.cell (k := 5) rfl
  have z6 := hz.cell (k := 6) rfl
  have z7 := hz.cell (k := 7) rfl
  have z8 := hz.cell (k := 8) rfl
  have z9 := hz.cell (k := 9) rfl
  have lz := hz.lt
  have w2 := H1.wd2.cell (k := 2) rfl
  have lw := H1.wd2.lt
  have HH := Lib.hid H1
  have hc := leaf_h HH.out.drew p i g (hof g) xw xu xx
  rw [show hof g = IntKind.i64.wrap (24 + bits .and .i64 g 15) from rfl] at hc
  have HC := Lib.hid hc
  have HW := Lib.hid hwz
  have HZB := Lib.hid hzb
  clear hc H1 H hwz hzb b0 hz
  go_enter Try.func14, Try.ntmps14
  go_wp2_with fail
  rw [HW.out, HZB.out]
  go_wp2_with fail
  go_region_held3 (fun w' => w'.cell? ⟨wb, 2, none⟩ = some (.pointer (some ⟨A.sp, 0, none⟩)) ∧ w'.cell? ⟨zb, 4, none⟩ = some (.int .i64 p) ∧ w'.cell? ⟨zb, 5, none⟩ = some (.int .i64 i) ∧ w'.cell? ⟨zb, 6, none⟩ = some (.int .i64 g) ∧ w'.cell? ⟨zb, 7, none⟩ = some (.bool xw) ∧ w'.cell? ⟨zb, 8, none⟩ = some (.bool xu) ∧ w'.cell? ⟨zb, 9, none⟩ = some (.bool xx)) (go_keep) (first
    | (go_at_call 38; (with_reducible refine HC.out.mono ?_); rintro e W3 ⟨rfl, h3⟩; have y4 := (show Blk W3 zb 42 _ from h3.top).cell (k := 4) rfl; have y5 := (show Blk W3 zb 42 _ from h3.top).cell (k := 5) rfl; have y6 := (show Blk W3 zb 42 _ from h3.top).cell (k := 6) rfl; have y7 := (show Blk W3 zb 42 _ from h3.top).cell (k := 7) rfl; have y8 := (show Blk W3 zb 42 _ from h3.top).cell (k := 8) rfl; have y9 := (show Blk W3 zb 42 _ from h3.top).cell (k := 9) rfl; have u2 := h3.wd2.cell (k := 2) rfl; have ul := h3.wd2.lt; have yl := (show Blk W3 zb 42 _ from h3.top).lt; have HH3 := Lib.hid h3; clear h3))
  all_goals go_wp2
  all_goals go_ret2
  all_goals exact ⟨rfl, V, HH3.out.tail⟩
set_option maxRecDepth 100000 in
set_option maxHeartbeats 2000000 in
theorem gdo_6 {w0 w : World} {A : GAd} {P : Pm} {V : GVl} {G : GS} {ts : List Thing} {wb : Nat} (H : HG w0 w A P V G (wld wb A :: ts)) (kg kv kr p i g : Int) (xw xu xx : Bool) (v : Nat) :
    Calls Try.prog 14 #[.pointer (some ⟨wb, 0, none⟩), .agg #[.int .i64 6, .int .i64 kg, .int .i64 kv, .int .i64 kr, .int .i64 p, .int .i64 i, .int .i64 g, .bool xw, .bool xu, .bool xx, .int .u64 (v : Int)]] w
      fun e w' => e = .returned (.tuple #[.int .i64 (0, (gzap G p i).1).1, .bool (0, (gzap G p i).1).2]) ∧ ∃ V', HG w0 w' A P V' ((gzap G p i).2) (wld wb A :: ts) := by
  have b0 := bal w (.cells #[.int .i64 6, .int .i64 kg, .int .i64 kv, .int .i64 kr, .int .i64 p, .int .i64 i, .int .i64 g, .bool xw, .bool xu, .bool xx, .int .u64 (v : Int)] 42)
  have hz := Blk.new w 42 [.int .i64 6, .int .i64 kg, .int .i64 kv, .int .i64 kr, .int .i64 p, .int .i64 i, .int .i64 g, .bool xw, .bool xu, .bool xx, .int .u64 (v : Int)]
  obtain ⟨wz, hwz⟩ : ∃ wz, w.alloc (.cells #[.int .i64 6, .int .i64 kg, .int .i64 kv, .int .i64 kr, .int .i64 p, .int .i64 i, .int .i64 g, .bool xw, .bool xu, .bool xx, .int .u64 (v : Int)] 42) = wz := ⟨_, rfl⟩
  rw [show (w.alloc (.cells ([.int .i64 6, .int .i64 kg, .int .i64 kv, .int .i64 kr, .int .i64 p, .int .i64 i, .int .i64 g, .bool xw, .bool xu, .bool xx, .int .u64 (v : Int)] : List Value).toArray 42)) = wz from hwz] at hz
  rw [hwz] at b0
  have H1 := H.add b0 (box w.heap.size 42 [.int .i64 6, .int .i64 kg, .int .i64 kv, .int .i64 kr, .int .i64 p, .int .i64 i, .int .i64 g, .bool xw, .bool xu, .bool xx, .int .u64 (v : Int)]) hz (fun b e => Nat.le_of_eq e.symm)
  obtain ⟨zb, hzb⟩ : ∃ zb, w.heap.size = zb := ⟨_, rfl⟩
  rw [hzb] at hz H1
  have z0 := hz.cell (k := 0) rfl
  have z4 := hz.cell (k := 4) rfl
  have z5 := hz.cell (k := 5) rfl
  have lz := hz.lt
  have w4 := H1.wd2.cell (k := 4) rfl
  have lw := H1.wd2.lt
  have HH := Lib.hid H1
  have hc := zap_h HH.out.drew p i
  have HC := Lib.hid hc
  have HW := Lib.hid hwz
  have HZB := Lib.hid hzb
  clear hc H1 H hwz hzb b0 hz
  go_enter Try.func14, Try.ntmps14
  go_wp2_with fail
  rw [HW.out, HZB.out]
  go_wp2_with fail
  go_region_held3 (fun w' => w'.cell? ⟨wb, 4, none⟩ = some (.pointer (some ⟨A.dp, 0, none⟩)) ∧ w'.cell? ⟨zb, 4, none⟩ = some (.int .i64 p) ∧ w'.cell? ⟨zb, 5, none⟩ = some (.int .i64 i)) (go_keep) (first
    | (go_at_call 49; (with_reducible refine HC.out.mono ?_); rintro e W3 ⟨rfl, V3, h3⟩; have y4 := (show Blk W3 zb 42 _ from h3.top).cell (k := 4) rfl; have y5 := (show Blk W3 zb 42 _ from h3.top).cell (k := 5) rfl; have u4 := h3.wd2.cell (k := 4) rfl; have ul := h3.wd2.lt; have yl := (show Blk W3 zb 42 _ from h3.top).lt; have HH3 := Lib.hid h3; clear h3))
  all_goals go_wp2
  all_goals go_ret2
  all_goals exact ⟨rfl, V3, HH3.out.tail⟩
set_option maxRecDepth 100000 in
set_option maxHeartbeats 2000000 in
theorem gdo_7 {w0 w : World} {A : GAd} {P : Pm} {V : GVl} {G : GS} {ts : List Thing} {wb : Nat} (H : HG w0 w A P V G (wld wb A :: ts)) (kg kv kr p i g : Int) (xw xu xx : Bool) (v : Nat) :
    Calls Try.prog 14 #[.pointer (some ⟨wb, 0, none⟩), .agg #[.int .i64 7, .int .i64 kg, .int .i64 kv, .int .i64 kr, .int .i64 p, .int .i64 i, .int .i64 g, .bool xw, .bool xu, .bool xx, .int .u64 (v : Int)]] w
      fun e w' => e = .returned (.tuple #[.int .i64 (0, true).1, .bool (0, true).2]) ∧ ∃ V', HG w0 w' A P V' (gword G g i) (wld wb A :: ts) := by
  have b0 := bal w (.cells #[.int .i64 7, .int .i64 kg, .int .i64 kv, .int .i64 kr, .int .i64 p, .int .i64 i, .int .i64 g, .bool xw, .bool xu, .bool xx, .int .u64 (v : Int)] 42)
  have hz := Blk.new w 42 [.int .i64 7, .int .i64 kg, .int .i64 kv, .int .i64 kr, .int .i64 p, .int .i64 i, .int .i64 g, .bool xw, .bool xu, .bool xx, .int .u64 (v : Int)]
  obtain ⟨wz, hwz⟩ : ∃ wz, w.alloc (.cells #[.int .i64 7, .int .i64 kg, .int .i64 kv, .int .i64 kr, .int .i64 p, .int .i64 i, .int .i64 g, .bool xw, .bool xu, .bool xx, .int .u64 (v : Int)] 42) = wz := ⟨_, rfl⟩
  rw [show (w.alloc (.cells ([.int .i64 7, .int .i64 kg, .int .i64 kv, .int .i64 kr, .int .i64 p, .int .i64 i, .int .i64 g, .bool xw, .bool xu, .bool xx, .int .u64 (v : Int)] : List Value).toArray 42)) = wz from hwz] at hz
  rw [hwz] at b0
  have H1 := H.add b0 (box w.heap.size 42 [.int .i64 7, .int .i64 kg, .int .i64 kv, .int .i64 kr, .int .i64 p, .int .i64 i, .int .i64 g, .bool xw, .bool xu, .bool xx, .int .u64 (v : Int)]) hz (fun b e => Nat.le_of_eq e.symm)
  obtain ⟨zb, hzb⟩ : ∃ zb, w.heap.size = zb := ⟨_, rfl⟩
  rw [hzb] at hz H1
  have z0 := hz.cell (k := 0) rfl
  have z6 := hz.cell (k := 6) rfl
  have z5 := hz.cell (k := 5) rfl
  have lz := hz.lt
  have w4 := H1.wd2.cell (k := 4) rfl
  have lw := H1.wd2.lt
  have HH := Lib.hid H1
  have hc := word_h HH.out.drew g i
  have HC := Lib.hid hc
  have HW := Lib.hid hwz
  have HZB := Lib.hid hzb
  clear hc H1 H hwz hzb b0 hz
  go_enter Try.func14, Try.ntmps14
  go_wp2_with fail
  rw [HW.out, HZB.out]
  go_wp2_with fail
  go_region_held3 (fun w' => w'.cell? ⟨wb, 4, none⟩ = some (.pointer (some ⟨A.dp, 0, none⟩)) ∧ w'.cell? ⟨zb, 6, none⟩ = some (.int .i64 g) ∧ w'.cell? ⟨zb, 5, none⟩ = some (.int .i64 i)) (go_keep) (first
    | (go_at_call 33; (with_reducible refine HC.out.mono ?_); rintro e W3 ⟨⟨r3, rfl⟩, V3, h3⟩; have y6 := (show Blk W3 zb 42 _ from h3.top).cell (k := 6) rfl; have y5 := (show Blk W3 zb 42 _ from h3.top).cell (k := 5) rfl; have u4 := h3.wd2.cell (k := 4) rfl; have ul := h3.wd2.lt; have yl := (show Blk W3 zb 42 _ from h3.top).lt; have HH3 := Lib.hid h3; clear h3))
  all_goals go_wp2
  all_goals go_ret2
  all_goals exact ⟨rfl, V3, HH3.out.tail⟩
set_option maxRecDepth 100000 in
set_option maxHeartbeats 2000000 in
theorem gdo_8 {w0 w : World} {A : GAd} {P : Pm} {V : GVl} {G : GS} {ts : List Thing} {wb : Nat} (H : HG w0 w A P V G (wld wb A :: ts)) (hl : G.loose.length ≤ 1000) (kg kv kr p i g : Int) (xw xu xx : Bool) (v : Nat) :
    Calls Try.prog 14 #[.pointer (some ⟨wb, 0, none⟩), .agg #[.int .i64 8, .int .i64 kg, .int .i64 kv, .int .i64 kr, .int .i64 p, .int .i64 i, .int .i64 g, .bool xw, .bool xu, .bool xx, .int .u64 (v : Int)]] w
      fun e w' => e = .returned (.tuple #[.int .i64 (0, (gloosen G g).1).1, .bool (0, (gloosen G g).1).2]) ∧ ∃ V', HG w0 w' A P V' ((gloosen G g).2) (wld wb A :: ts) := by
  have b0 := bal w (.cells #[.int .i64 8, .int .i64 kg, .int .i64 kv, .int .i64 kr, .int .i64 p, .int .i64 i, .int .i64 g, .bool xw, .bool xu, .bool xx, .int .u64 (v : Int)] 42)
  have hz := Blk.new w 42 [.int .i64 8, .int .i64 kg, .int .i64 kv, .int .i64 kr, .int .i64 p, .int .i64 i, .int .i64 g, .bool xw, .bool xu, .bool xx, .int .u64 (v : Int)]
  obtain ⟨wz, hwz⟩ : ∃ wz, w.alloc (.cells #[.int .i64 8, .int .i64 kg, .int .i64 kv, .int .i64 kr, .int .i64 p, .int .i64 i, .int .i64 g, .bool xw, .bool xu, .bool xx, .int .u64 (v : Int)] 42) = wz := ⟨_, rfl⟩
  rw [show (w.alloc (.cells ([.int .i64 8, .int .i64 kg, .int .i64 kv, .int .i64 kr, .int .i64 p, .int .i64 i, .int .i64 g, .bool xw, .bool xu, .bool xx, .int .u64 (v : Int)] : List Value).toArray 42)) = wz from hwz] at hz
  rw [hwz] at b0
  have H1 := H.add b0 (box w.heap.size 42 [.int .i64 8, .int .i64 kg, .int .i64 kv, .int .i64 kr, .int .i64 p, .int .i64 i, .int .i64 g, .bool xw, .bool xu, .bool xx, .int .u64 (v : Int)]) hz (fun b e => Nat.le_of_eq e.symm)
  obtain ⟨zb, hzb⟩ : ∃ zb, w.heap.size = zb := ⟨_, rfl⟩
  rw [hzb] at hz H1
  have z0 := hz.cell (k := 0) rfl
  have z6 := hz.cell (k := 6) rfl
  have lz := hz.lt
  have w4 := H1.wd2.cell (k := 4) rfl
  have lw := H1.wd2.lt
  have HH := Lib.hid H1
  have hc := loosen_h HH.out.drew hl g
  have HC := Lib.hid hc
  have HW := Lib.hid hwz
  have HZB := Lib.hid hzb
  clear hc H1 H hwz hzb b0 hz hl
  go_enter Try.func14, Try.ntmps14
  go_wp2_with fail
  rw [HW.out, HZB.out]
  go_wp2_with fail
  go_region_held3 (fun w' => w'.cell? ⟨wb, 4, none⟩ = some (.pointer (some ⟨A.dp, 0, none⟩)) ∧ w'.cell? ⟨zb, 6, none⟩ = some (.int .i64 g)) (go_keep) (first
    | (go_at_call 39; (with_reducible refine HC.out.mono ?_); rintro e W3 ⟨rfl, V3, h3⟩; have y6 := (show Blk W3 zb 42 _ from h3.top).cell (k := 6) rfl; have u4 := h3.wd2.cell (k := 4) rfl; have ul := h3.wd2.lt; have yl := (show Blk W3 zb 42 _ from h3.top).lt; have HH3 := Lib.hid h3; clear h3))
  all_goals go_wp2
  all_goals go_ret2
  all_goals exact ⟨rfl, V3, HH3.out.tail⟩
set_option maxRecDepth 100000 in
set_option maxHeartbeats 2000000 in
theorem gdo_9 {w0 w : World} {A : GAd} {P : Pm} {V : GVl} {G : GS} {ts : List Thing} {wb : Nat} (H : HG w0 w A P V G (wld wb A :: ts)) (kg kv kr p i g : Int) (xw xu xx : Bool) (v : Nat) :
    Calls Try.prog 14 #[.pointer (some ⟨wb, 0, none⟩), .agg #[.int .i64 9, .int .i64 kg, .int .i64 kv, .int .i64 kr, .int .i64 p, .int .i64 i, .int .i64 g, .bool xw, .bool xu, .bool xx, .int .u64 (v : Int)]] w
      fun e w' => e = .returned (.tuple #[.int .i64 (0, (glook P G g).1).1, .bool (0, (glook P G g).1).2]) ∧ ∃ V', HG w0 w' A P V' ((glook P G g).2) (wld wb A :: ts) := by
  have b0 := bal w (.cells #[.int .i64 9, .int .i64 kg, .int .i64 kv, .int .i64 kr, .int .i64 p, .int .i64 i, .int .i64 g, .bool xw, .bool xu, .bool xx, .int .u64 (v : Int)] 42)
  have hz := Blk.new w 42 [.int .i64 9, .int .i64 kg, .int .i64 kv, .int .i64 kr, .int .i64 p, .int .i64 i, .int .i64 g, .bool xw, .bool xu, .bool xx, .int .u64 (v : Int)]
  obtain ⟨wz, hwz⟩ : ∃ wz, w.alloc (.cells #[.int .i64 9, .int .i64 kg, .int .i64 kv, .int .i64 kr, .int .i64 p, .int .i64 i, .int .i64 g, .bool xw, .bool xu, .bool xx, .int .u64 (v : Int)] 42) = wz := ⟨_, rfl⟩
  rw [show (w.alloc (.cells ([.int .i64 9, .int .i64 kg, .int .i64 kv, .int .i64 kr, .int .i64 p, .int .i64 i, .int .i64 g, .bool xw, .bool xu, .bool xx, .int .u64 (v : Int)] : List Value).toArray 42)) = wz from hwz] at hz
  rw [hwz] at b0
  have H1 := H.add b0 (box w.heap.size 42 [.int .i64 9, .int .i64 kg, .int .i64 kv, .int .i64 kr, .int .i64 p, .int .i64 i, .int .i64 g, .bool xw, .bool xu, .bool xx, .int .u64 (v : Int)]) hz (fun b e => Nat.le_of_eq e.symm)
  obtain ⟨zb, hzb⟩ : ∃ zb, w.heap.size = zb := ⟨_, rfl⟩
  rw [hzb] at hz H1
  have z0 := hz.cell (k := 0) rfl
  have z6 := hz.cell (k := 6) rfl
  have lz := hz.lt
  have w4 := H1.wd2.cell (k := 4) rfl
  have lw := H1.wd2.lt
  have HH := Lib.hid H1
  have hc := look_h HH.out.drew g
  have HC := Lib.hid hc
  have HW := Lib.hid hwz
  have HZB := Lib.hid hzb
  clear hc H1 H hwz hzb b0 hz
  go_enter Try.func14, Try.ntmps14
  go_wp2_with fail
  rw [HW.out, HZB.out]
  go_wp2_with fail
  go_region_held3 (fun w' => w'.cell? ⟨wb, 4, none⟩ = some (.pointer (some ⟨A.dp, 0, none⟩)) ∧ w'.cell? ⟨zb, 6, none⟩ = some (.int .i64 g)) (go_keep) (first
    | (go_at_call 24; (with_reducible refine HC.out.mono ?_); rintro e W3 ⟨rfl, V3, h3⟩; have y6 := (show Blk W3 zb 42 _ from h3.top).cell (k := 6) rfl; have u4 := h3.wd2.cell (k := 4) rfl; have ul := h3.wd2.lt; have yl := (show Blk W3 zb 42 _ from h3.top).lt; have HH3 := Lib.hid h3; clear h3))
  all_goals go_wp2
  all_goals go_ret2
  all_goals exact ⟨rfl, V3, HH3.out.tail⟩
set_option maxRecDepth 100000 in
set_option maxHeartbeats 2000000 in
theorem gdo_10 {w0 w : World} {A : GAd} {P : Pm} {V : GVl} {G : GS} {ts : List Thing} {wb : Nat} (H : HG w0 w A P V G (wld wb A :: ts)) (hl : G.loose.length ≤ 1000) (kg kv kr p i g : Int) (xw xu xx : Bool) (v : Nat) :
    Calls Try.prog 14 #[.pointer (some ⟨wb, 0, none⟩), .agg #[.int .i64 10, .int .i64 kg, .int .i64 kv, .int .i64 kr, .int .i64 p, .int .i64 i, .int .i64 g, .bool xw, .bool xu, .bool xx, .int .u64 (v : Int)]] w
      fun e w' => e = .returned (.tuple #[.int .i64 (0, true).1, .bool (0, true).2]) ∧ ∃ V', HG w0 w' A P V' (gall P G) (wld wb A :: ts) := by
  have b0 := bal w (.cells #[.int .i64 10, .int .i64 kg, .int .i64 kv, .int .i64 kr, .int .i64 p, .int .i64 i, .int .i64 g, .bool xw, .bool xu, .bool xx, .int .u64 (v : Int)] 42)
  have hz := Blk.new w 42 [.int .i64 10, .int .i64 kg, .int .i64 kv, .int .i64 kr, .int .i64 p, .int .i64 i, .int .i64 g, .bool xw, .bool xu, .bool xx, .int .u64 (v : Int)]
  obtain ⟨wz, hwz⟩ : ∃ wz, w.alloc (.cells #[.int .i64 10, .int .i64 kg, .int .i64 kv, .int .i64 kr, .int .i64 p, .int .i64 i, .int .i64 g, .bool xw, .bool xu, .bool xx, .int .u64 (v : Int)] 42) = wz := ⟨_, rfl⟩
  rw [show (w.alloc (.cells ([.int .i64 10, .int .i64 kg, .int .i64 kv, .int .i64 kr, .int .i64 p, .int .i64 i, .int .i64 g, .bool xw, .bool xu, .bool xx, .int .u64 (v : Int)] : List Value).toArray 42)) = wz from hwz] at hz
  rw [hwz] at b0
  have H1 := H.add b0 (box w.heap.size 42 [.int .i64 10, .int .i64 kg, .int .i64 kv, .int .i64 kr, .int .i64 p, .int .i64 i, .int .i64 g, .bool xw, .bool xu, .bool xx, .int .u64 (v : Int)]) hz (fun b e => Nat.le_of_eq e.symm)
  obtain ⟨zb, hzb⟩ : ∃ zb, w.heap.size = zb := ⟨_, rfl⟩
  rw [hzb] at hz H1
  have HH := Lib.hid H1
  have w4 := H.wd.cell (k := 4) rfl
  have lw := H.wd.lt
  have hc := all_h HH.out hl
  have HC := Lib.hid hc
  have HW := Lib.hid hwz
  have HZB := Lib.hid hzb
  clear hc H1 H hwz hzb b0 hz hl
  go_enter Try.func14, Try.ntmps14
  go_wp2_with (go_at_call 50; rw [HW.out, HZB.out]; (with_reducible refine HC.out.mono ?_); rintro e W3 ⟨⟨r3, rfl⟩, V3, h3⟩; have u4 := h3.wd2.cell (k := 4) rfl; have ul := h3.wd2.lt; have yl := (show Blk W3 zb 42 _ from h3.top).lt; have HH3 := Lib.hid h3; clear h3)
  go_ret2
  exact ⟨rfl, V3, HH3.out.tail⟩
set_option maxRecDepth 100000 in
set_option maxHeartbeats 2000000 in
theorem gdo_11 {w0 w : World} {A : GAd} {P : Pm} {V : GVl} {G : GS} {ts : List Thing} {wb : Nat} (H : HG w0 w A P V G (wld wb A :: ts)) (kg kv kr p i g : Int) (xw xu xx : Bool) (v : Nat) :
    Calls Try.prog 14 #[.pointer (some ⟨wb, 0, none⟩), .agg #[.int .i64 11, .int .i64 kg, .int .i64 kv, .int .i64 kr, .int .i64 p, .int .i64 i, .int .i64 g, .bool xw, .bool xu, .bool xx, .int .u64 (v : Int)]] w
      fun e w' => e = .returned (.tuple #[.int .i64 (0, (gdrop G p).1).1, .bool (0, (gdrop G p).1).2]) ∧ ∃ V', HG w0 w' A P V' ((gdrop G p).2) (wld wb A :: ts) := by
  have b0 := bal w (.cells #[.int .i64 11, .int .i64 kg, .int .i64 kv, .int .i64 kr, .int .i64 p, .int .i64 i, .int .i64 g, .bool xw, .bool xu, .bool xx, .int .u64 (v : Int)] 42)
  have hz := Blk.new w 42 [.int .i64 11, .int .i64 kg, .int .i64 kv, .int .i64 kr, .int .i64 p, .int .i64 i, .int .i64 g, .bool xw, .bool xu, .bool xx, .int .u64 (v : Int)]
  obtain ⟨wz, hwz⟩ : ∃ wz, w.alloc (.cells #[.int .i64 11, .int .i64 kg, .int .i64 kv, .int .i64 kr, .int .i64 p, .int .i64 i, .int .i64 g, .bool xw, .bool xu, .bool xx, .int .u64 (v : Int)] 42) = wz := ⟨_, rfl⟩
  rw [show (w.alloc (.cells ([.int .i64 11, .int .i64 kg, .int .i64 kv, .int .i64 kr, .int .i64 p, .int .i64 i, .int .i64 g, .bool xw, .bool xu, .bool xx, .int .u64 (v : Int)] : List Value).toArray 42)) = wz from hwz] at hz
  rw [hwz] at b0
  have H1 := H.add b0 (box w.heap.size 42 [.int .i64 11, .int .i64 kg, .int .i64 kv, .int .i64 kr, .int .i64 p, .int .i64 i, .int .i64 g, .bool xw, .bool xu, .bool xx, .int .u64 (v : Int)]) hz (fun b e => Nat.le_of_eq e.symm)
  obtain ⟨zb, hzb⟩ : ∃ zb, w.heap.size = zb := ⟨_, rfl⟩
  rw [hzb] at hz H1
  have z0 := hz.cell (k := 0) rfl
  have z4 := hz.cell (k := 4) rfl
  have lz := hz.lt
  have w4 := H1.wd2.cell (k := 4) rfl
  have lw := H1.wd2.lt
  have HH := Lib.hid H1
  have hc := gdrop_h HH.out.drew p
  have HC := Lib.hid hc
  have HW := Lib.hid hwz
  have HZB := Lib.hid hzb
  clear hc H1 H hwz hzb b0 hz
  go_enter Try.func14, Try.ntmps14
  go_wp2_with fail
  rw [HW.out, HZB.out]
  go_wp2_with fail
  go_region_held3 (fun w' => w'.cell? ⟨wb, 4, none⟩ = some (.pointer (some ⟨A.dp, 0, none⟩)) ∧ w'.cell? ⟨zb, 4, none⟩ = some (.int .i64 p)) (go_keep) (first
    | (go_at_call 34; (with_reducible refine HC.out.mono ?_); rintro e W3 ⟨rfl, V3, h3⟩; have y4 := (show Blk W3 zb 42 _ from h3.top).cell (k := 4) rfl; have u4 := h3.wd2.cell (k := 4) rfl; have ul := h3.wd2.lt; have yl := (show Blk W3 zb 42 _ from h3.top).lt; have HH3 := Lib.hid h3; clear h3))
  all_goals go_wp2
  all_goals go_ret2
  all_goals exact ⟨rfl, V3, HH3.out.tail⟩
set_option maxRecDepth 100000 in
set_option maxHeartbeats 2000000 in
theorem gdo_12 {w0 w : World} {A : GAd} {P : Pm} {V : GVl} {G : GS} {ts : List Thing} {wb : Nat} (H : HG w0 w A P V G (wld wb A :: ts)) (kg kv kr p i g : Int) (xw xu xx : Bool) (v : Nat) (hv : v < 2 ^ 64) :
    Calls Try.prog 14 #[.pointer (some ⟨wb, 0, none⟩), .agg #[.int .i64 12, .int .i64 kg, .int .i64 kv, .int .i64 kr, .int .i64 p, .int .i64 i, .int .i64 g, .bool xw, .bool xu, .bool xx, .int .u64 (v : Int)]] w
      fun e w' => e = .returned (.tuple #[.int .i64 (0, (place P.hosts g i).isSome).1, .bool (0, (place P.hosts g i).isSome).2]) ∧ ∃ V', HG w0 w' A P V' ({ G with s := { G.s with mem := wr P.hosts G.s.mem g i v } }) (wld wb A :: ts) := by
  have b0 := bal w (.cells #[.int .i64 12, .int .i64 kg, .int .i64 kv, .int .i64 kr, .int .i64 p, .int .i64 i, .int .i64 g, .bool xw, .bool xu, .bool xx, .int .u64 (v : Int)] 42)
  have hz := Blk.new w 42 [.int .i64 12, .int .i64 kg, .int .i64 kv, .int .i64 kr, .int .i64 p, .int .i64 i, .int .i64 g, .bool xw, .bool xu, .bool xx, .int .u64 (v : Int)]
  obtain ⟨wz, hwz⟩ : ∃ wz, w.alloc (.cells #[.int .i64 12, .int .i64 kg, .int .i64 kv, .int .i64 kr, .int .i64 p, .int .i64 i, .int .i64 g, .bool xw, .bool xu, .bool xx, .int .u64 (v : Int)] 42) = wz := ⟨_, rfl⟩
  rw [show (w.alloc (.cells ([.int .i64 12, .int .i64 kg, .int .i64 kv, .int .i64 kr, .int .i64 p, .int .i64 i, .int .i64 g, .bool xw, .bool xu, .bool xx, .int .u64 (v : Int)] : List Value).toArray 42)) = wz from hwz] at hz
  rw [hwz] at b0
  have H1 := H.add b0 (box w.heap.size 42 [.int .i64 12, .int .i64 kg, .int .i64 kv, .int .i64 kr, .int .i64 p, .int .i64 i, .int .i64 g, .bool xw, .bool xu, .bool xx, .int .u64 (v : Int)]) hz (fun b e => Nat.le_of_eq e.symm)
  obtain ⟨zb, hzb⟩ : ∃ zb, w.heap.size = zb := ⟨_, rfl⟩
  rw [hzb] at hz H1
  have z0 := hz.cell (k := 0) rfl
  have z5 := hz.cell (k := 5) rfl
  have z6 := hz.cell (k := 6) rfl
  have z10 := hz.cell (k := 10) rfl
  have lz := hz.lt
  have w1 := H1.wd2.cell (k := 1) rfl
  have lw := H1.wd2.lt
  have HH := Lib.hid H1
  have hc := gset_h HH.out.drew g i v hv
  have HC := Lib.hid hc
  have HW := Lib.hid hwz
  have HZB := Lib.hid hzb
  clear hc H1 H hwz hzb b0 hz
  go_enter Try.func14, Try.ntmps14
  go_wp2_with fail
  rw [HW.out, HZB.out]
  go_wp2_with fail
  go_region_held3 (fun w' => w'.cell? ⟨wb, 1, none⟩ = some (.pointer (some ⟨A.p, 0, none⟩)) ∧ w'.cell? ⟨zb, 5, none⟩ = some (.int .i64 i) ∧ w'.cell? ⟨zb, 6, none⟩ = some (.int .i64 g) ∧ w'.cell? ⟨zb, 10, none⟩ = some (.int .u64 (v : Int))) (go_keep) (first
    | (go_at_call 25; (with_reducible refine HC.out.mono ?_); rintro e W3 ⟨rfl, h3⟩; have y5 := (show Blk W3 zb 42 _ from h3.top).cell (k := 5) rfl; have y6 := (show Blk W3 zb 42 _ from h3.top).cell (k := 6) rfl; have y10 := (show Blk W3 zb 42 _ from h3.top).cell (k := 10) rfl; have u1 := h3.wd2.cell (k := 1) rfl; have ul := h3.wd2.lt; have yl := (show Blk W3 zb 42 _ from h3.top).lt; have HH3 := Lib.hid h3; clear h3))
  all_goals go_wp2
  all_goals go_ret2
  all_goals exact ⟨rfl, V, HH3.out.tail⟩
set_option maxRecDepth 100000 in
set_option maxHeartbeats 2000000 in
theorem gdo_13 {w0 w : World} {A : GAd} {P : Pm} {V : GVl} {G : GS} {ts : List Thing} {wb : Nat} (H : HG w0 w A P V G (wld wb A :: ts)) (hm : 1 ≤ P.most) (kg kv kr p i g : Int) (xw xu xx : Bool) (v : Nat) :
    Calls Try.prog 14 #[.pointer (some ⟨wb, 0, none⟩), .agg #[.int .i64 13, .int .i64 kg, .int .i64 kv, .int .i64 kr, .int .i64 p, .int .i64 i, .int .i64 g, .bool xw, .bool xu, .bool xx, .int .u64 (v : Int)]] w
      fun e w' => e = .returned (.tuple #[.int .i64 (0, true).1, .bool (0, true).2]) ∧ ∃ V', HG w0 w' A P V' ({ G with l := tput P.most G.l ⟨0, i, p, ⟨false, false, false⟩, false⟩ }) (wld wb A :: ts) := by
  have b0 := bal w (.cells #[.int .i64 13, .int .i64 kg, .int .i64 kv, .int .i64 kr, .int .i64 p, .int .i64 i, .int .i64 g, .bool xw, .bool xu, .bool xx, .int .u64 (v : Int)] 42)
  have hz := Blk.new w 42 [.int .i64 13, .int .i64 kg, .int .i64 kv, .int .i64 kr, .int .i64 p, .int .i64 i, .int .i64 g, .bool xw, .bool xu, .bool xx, .int .u64 (v : Int)]
  obtain ⟨wz, hwz⟩ : ∃ wz, w.alloc (.cells #[.int .i64 13, .int .i64 kg, .int .i64 kv, .int .i64 kr, .int .i64 p, .int .i64 i, .int .i64 g, .bool xw, .bool xu, .bool xx, .int .u64 (v : Int)] 42) = wz := ⟨_, rfl⟩
  rw [show (w.alloc (.cells ([.int .i64 13, .int .i64 kg, .int .i64 kv, .int .i64 kr, .int .i64 p, .int .i64 i, .int .i64 g, .bool xw, .bool xu, .bool xx, .int .u64 (v : Int)] : List Value).toArray 42)) = wz from hwz] at hz
  rw [hwz] at b0
  have H1 := H.add b0 (box w.heap.size 42 [.int .i64 13, .int .i64 kg, .int .i64 kv, .int .i64 kr, .int .i64 p, .int .i64 i, .int .i64 g, .bool xw, .bool xu, .bool xx, .int .u64 (v : Int)]) hz (fun b e => Nat.le_of_eq e.symm)
  obtain ⟨zb, hzb⟩ : ∃ zb, w.heap.size = zb := ⟨_, rfl⟩
  rw [hzb] at hz H1
  have z0 := hz.cell (k := 0) rfl
  have z4 := hz.cell (k := 4) rfl
  have z5 := hz.cell (k := 5) rfl
  have lz := hz.lt
  have w3 := H1.wd2.cell (k := 3) rfl
  have lw := H1.wd2.lt
  have HH := Lib.hid H1
  have hc := tput_h HH.out.drew hm ⟨0, i, p, ⟨false, false, false⟩, false⟩
  have HC := Lib.hid hc
  have HW := Lib.hid hwz
  have HZB := Lib.hid hzb
  clear hc H1 H hwz hzb b0 hz
  go_enter Try.func14, Try.ntmps14
  go_wp2_with fail
  rw [HW.out, HZB.out]
  go_wp2_with fail
  go_region_held3 (fun w' => w'.cell? ⟨wb, 3, none⟩ = some (.pointer (some ⟨A.tp, 0, none⟩)) ∧ w'.cell? ⟨zb, 4, none⟩ = some (.int .i64 p) ∧ w'.cell? ⟨zb, 5, none⟩ = some (.int .i64 i)) (go_keep) (first
    | (go_at_call 18; (with_reducible refine HC.out.mono ?_); rintro e W3 ⟨⟨r3, rfl⟩, V3, h3⟩; have y4 := (show Blk W3 zb 42 _ from h3.top).cell (k := 4) rfl; have y5 := (show Blk W3 zb 42 _ from h3.top).cell (k := 5) rfl; have u3 := h3.wd2.cell (k := 3) rfl; have ul := h3.wd2.lt; have yl := (show Blk W3 zb 42 _ from h3.top).lt; have HH3 := Lib.hid h3; clear h3))
  all_goals go_wp2
  all_goals go_ret2
  all_goals exact ⟨rfl, V3, HH3.out.tail⟩
set_option maxRecDepth 100000 in
set_option maxHeartbeats 2000000 in
theorem gdo_no {w0 w : World} {A : GAd} {P : Pm} {V : GVl} {G : GS} {ts : List Thing} {wb : Nat} (H : HG w0 w A P V G (wld wb A :: ts)) (k kg kv kr p i g : Int) (xw xu xx : Bool) (v : Nat) (n0 : k ≠ 0) (n1 : k ≠ 1) (n2 : k ≠ 2) (n3 : k ≠ 3) (n4 : k ≠ 4) (n5 : k ≠ 5) (n6 : k ≠ 6) (n7 : k ≠ 7) (n8 : k ≠ 8) (n9 : k ≠ 9) (n10 : k ≠ 10) (n11 : k ≠ 11) (n12 : k ≠ 12) (n13 : k ≠ 13) :
    Calls Try.prog 14 #[.pointer (some ⟨wb, 0, none⟩), .agg #[.int .i64 k, .int .i64 kg, .int .i64 kv, .int .i64 kr, .int .i64 p, .int .i64 i, .int .i64 g, .bool xw, .bool xu, .bool xx, .int .u64 (v : Int)]] w
      fun e w' => e = .returned (.tuple #[.int .i64 0, .bool true]) ∧ ∃ V', HG w0 w' A P V' G (wld wb A :: ts) := by
  have H1 := H.past (bal w (.cells #[.int .i64 k, .int .i64 kg, .int .i64 kv, .int .i64 kr, .int .i64 p, .int .i64 i, .int .i64 g, .bool xw, .bool xu, .bool xx, .int .u64 (v : Int)] 42))
  have HH := Lib.hid H1
  clear H1 H
  have f0 : (k == 0) = false := beq_eq_false_iff_ne.2 n0
  have f1 : (k == 1) = false := beq_eq_false_iff_ne.2 n1
  have f2 : (k == 2) = false := beq_eq_false_iff_ne.2 n2
  have f3 : (k == 3) = false := beq_eq_false_iff_ne.2 n3
  have f4 : (k == 4) = false := beq_eq_false_iff_ne.2 n4
  have f5 : (k == 5) = false := beq_eq_false_iff_ne.2 n5
  have f6 : (k == 6) = false := beq_eq_false_iff_ne.2 n6
  have f7 : (k == 7) = false := beq_eq_false_iff_ne.2 n7
  have f8 : (k == 8) = false := beq_eq_false_iff_ne.2 n8
  have f9 : (k == 9) = false := beq_eq_false_iff_ne.2 n9
  have f10 : (k == 10) = false := beq_eq_false_iff_ne.2 n10
  have f11 : (k == 11) = false := beq_eq_false_iff_ne.2 n11
  have f12 : (k == 12) = false := beq_eq_false_iff_ne.2 n12
  have f13 : (k == 13) = false := beq_eq_false_iff_ne.2 n13
  clear n0 n1 n2 n3 n4 n5 n6 n7 n8 n9 n10 n11 n12 n13
  go_enter Try.func14, Try.ntmps14
  go_wp2_with fail
  go_ret2
  exact ⟨rfl, V, HH.out⟩
theorem gdo_any {w0 w : World} {A : GAd} {P : Pm} {V : GVl} {G : GS} {ts : List Thing} {wb : Nat} (H : HG w0 w A P V G (wld wb A :: ts)) (hm : 1 ≤ P.most) (hl : G.loose.length ≤ 1000) (o : Opg) (hv : o.v < 2 ^ 64) :
    Calls Try.prog 14 #[.pointer (some ⟨wb, 0, none⟩), .agg o.cells.toArray] w
      fun e w' => e = .returned (.tuple #[.int .i64 (gdo P G o).1.1, .bool (gdo P G o).1.2]) ∧ ∃ V', HG w0 w' A P V' (gdo P G o).2 (wld wb A :: ts) := by
  obtain ⟨k, kg, kv, kr, p, i, g, ⟨xw, xu, xx⟩, v⟩ := o
  by_cases h0 : k = 0
  · subst h0
    exact gdo_0 H kg kv kr p i g xw xu xx v
  by_cases h1 : k = 1
  · subst h1
    exact gdo_1 H kg kv kr p i g xw xu xx v
  by_cases h2 : k = 2
  · subst h2
    exact gdo_2 H kg kv kr p i g xw xu xx v
  by_cases h3 : k = 3
  · subst h3
    exact gdo_3 H kg kv kr p i g xw xu xx v
  by_cases h4 : k = 4
  · subst h4
    exact gdo_4 H kg kv kr p i g xw xu xx v
  by_cases h5 : k = 5
  · subst h5
    exact gdo_5 H kg kv kr p i g xw xu xx v
  by_cases h6 : k = 6
  · subst h6
    exact gdo_6 H kg kv kr p i g xw xu xx v
  by_cases h7 : k = 7
  · subst h7
    exact gdo_7 H kg kv kr p i g xw xu xx v
  by_cases h8 : k = 8
  · subst h8
    exact gdo_8 H hl kg kv kr p i g xw xu xx v
  by_cases h9 : k = 9
  · subst h9
    exact gdo_9 H kg kv kr p i g xw xu xx v
  by_cases h10 : k = 10
  · subst h10
    exact gdo_10 H hl kg kv kr p i g xw xu xx v
  by_cases h11 : k = 11
  · subst h11
    exact gdo_11 H kg kv kr p i g xw xu xx v
  by_cases h12 : k = 12
  · subst h12
    exact gdo_12 H kg kv kr p i g xw xu xx v hv
  by_cases h13 : k = 13
  · subst h13
    exact gdo_13 H hm kg kv kr p i g xw xu xx v
  have e : gdo P G ⟨k, kg, kv, kr, p, i, g, ⟨xw, xu, xx⟩, v⟩ = ((0, true), G) := by
    unfold gdo
    simp only [h0, h1, h2, h3, h4, h5, h6, h7, h8, h9, h10, h11, h12, h13, or_self, if_false]
  rw [e]
  exact gdo_no H k kg kv kr p i g xw xu xx v h0 h1 h2 h3 h4 h5 h6 h7 h8 h9 h10 h11 h12 h13
end Go.Proofs.Ytldmlmojokicaaa

namespace Go.Proofs.Ytldmlmojokicaaa
open Go.RowKit Go.Shelf Go.Maps

theorem great_any (w : World) (a1 a2 : Option Addr) (c1 c2 n m : Nat) (hn : n ≤ 9223372036854775807) (hm : m ≤ 9223372036854775807) :
    Calls Try.prog 12 #[.slice a1 n c1, .slice a2 m c2] w fun e w' => e = .returned (.bool (decide (600 < n) || decide (120 < m))) ∧ w = w' := by
  go_enter Try.func12, Try.ntmps12
  by_cases h1 : 600 < n
  · have d1 : decide (600 < n) = true := decide_eq_true h1
    rw [d1, Bool.true_or]
    go_wp2_with fail
    go_ret
    exact ⟨rfl, rfl⟩
  · have d1 : decide (600 < n) = false := decide_eq_false h1
    rw [d1, Bool.false_or]
    by_cases h2 : 120 < m
    · have d2 : decide (120 < m) = true := decide_eq_true h2
      rw [d2]
      go_wp2_with fail
      go_ret
      refine ⟨?_, rfl⟩
      show Ending.returned (.bool (decide ((600 : Int) < n) || decide ((120 : Int) < m))) = _
      rw [decide_eq_false (by omega), decide_eq_true (by omega)]; rfl
    · have d2 : decide (120 < m) = false := decide_eq_false h2
      rw [d2]
      go_wp2_with fail
      go_ret
      refine ⟨?_, rfl⟩
      show Ending.returned (.bool (decide ((600 : Int) < n) || decide ((120 : Int) < m))) = _
      rw [decide_eq_false (by omega), decide_eq_false (by omega)]; rfl
theorem mem_inv {P : Pm} {G : GS} (h : GInv P G) (m : List Nat) (hm : m.length = G.s.mem.length) : GInv P { G with s := { G.s with mem := m } } :=
  h.with G.l ⟨hm.trans h.s.len, h.s.sl, h.s.pos, h.s.bpos, h.s.nd, h.s.fr, h.s.cnt, h.s.top, h.s.small, h.s.kr⟩ ⟨h.k.1, h.k.2, h.k.3⟩ ⟨fun _ => rfl, fun _ => rfl, fun _ => rfl, rfl, rfl, rfl, rfl⟩
theorem gdo_inv {P : Pm} {G : GS} (h : GInv P G) (o : Opg) : GInv P (gdo P G o).2 := by
  unfold gdo
  by_cases c0 : o.k = 0 ∨ o.k = 1
  · rw [if_pos c0]; exact gmake_inv h _
  rw [if_neg c0]
  by_cases c1 : o.k = 2 ∨ o.k = 3
  · rw [if_pos c1]; exact h.with G.l (schild_inv h.s _ _ _ _) (h.k.child h.s _ _ _ _) (SameK.child _ _ _ _ _)
  rw [if_neg c1]
  by_cases c2 : o.k = 4 ∨ o.k = 5
  · rw [if_pos c2]; exact h.with G.l (sleaf_inv h.s _ _ _ _ _) (h.k.leaf h.s _ _ _ _ _ _) (SameK.leaf _ _ _ _ _ _ _)
  rw [if_neg c2]
  by_cases c3 : o.k = 6
  · rw [if_pos c3]; exact gzap_inv h _ _
  rw [if_neg c3]
  by_cases c4 : o.k = 7
  · rw [if_pos c4]; exact gword_inv h _ _
  rw [if_neg c4]
  by_cases c5 : o.k = 8
  · rw [if_pos c5]; exact gloosen_inv h _
  rw [if_neg c5]
  by_cases c6 : o.k = 9
  · rw [if_pos c6]; exact glook_inv h _
  rw [if_neg c6]
  by_cases c7 : o.k = 10
  · rw [if_pos c7]; exact gall_inv h
  rw [if_neg c7]
  by_cases c8 : o.k = 11
  · rw [if_pos c8]; exact gdrop_inv h _
  rw [if_neg c8]
  by_cases c9 : o.k = 12
  · rw [if_pos c9]; exact mem_inv h _ (wr_len _ _ _ _ _)
  rw [if_neg c9]
  by_cases c10 : o.k = 13
  · rw [if_pos c10]; exact h.with _ h.s h.k (SameK.refl _)
  rw [if_neg c10]
  exact h
theorem G24_inv (m : List Nat) (hm : m.length = 320) : GInv P24 (G24 m) :=
  ⟨S24_inv m hm, ⟨List.nodup_nil, fun _ hp => by simp [G24, S24] at hp, fun _ _ _ hx => by simp [G24, S24, sslot, spage] at hx⟩, List.nodup_nil, fun g hg => by simp [G24] at hg⟩
end Go.Proofs.Ytldmlmojokicaaa
