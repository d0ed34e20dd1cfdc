/- What the law's head meets, as numbers. The law's head, walked. The law's head, walked. -/
import Derived.Test.YtldmlmojokicaaaGop
import Derived.Test.YtldmlmojokicaaaGb
import Derived.Test.YtldmlmojokicaaaGx
namespace Go.Proofs.Ytldmlmojokicaaa
open Go.RowKit Go.Shelf Go.Maps

def hl0 : List (Int × Int × Nat) := [(3, 0, 36903), (3, 1, 40999)]
def hs0 : GS := G24 (gputs hl0)
def hs1 : GS := (gmake P24 hs0 ⟨1, 3, 0⟩).2
def hs2 : GS := (gmake P24 hs1 ⟨2, 2, 0⟩).2
def hs3 : GS := (gmake P24 hs2 ⟨3, 1, 0⟩).2
def hs4 : GS := { hs3 with s := (schild hs3.s 4 0 5 ⟨true, true, true⟩).2 }
def hs5 : GS := { hs4 with s := (schild hs4.s 5 2 6 ⟨true, true, true⟩).2 }
def hs6 : GS := { hs5 with s := (sleaf 40 hs5.s 6 0 9 33 ⟨false, true, true⟩).2 }
def hs7 : GS := { hs6 with s := (sleaf 40 hs6.s 6 1 9 33 ⟨false, true, true⟩).2 }
def hs8 : GS := { hs7 with s := (sleaf 40 hs7.s 6 2 3 27 ⟨true, false, false⟩).2 }
def hs9 : GS := (gloosen hs8 3).2
def hs10 : GS := (glook P24 hs9 3).2
def hs11 : GS := (gdrop hs10 6).2
set_option maxRecDepth 100000
theorem hf1 : (gmake P24 hs0 ⟨1, 3, 0⟩).1 = some 4 := by decide +kernel
theorem hf2 : (gmake P24 hs1 ⟨2, 2, 0⟩).1 = some 5 := by decide +kernel
theorem hf3 : (gmake P24 hs2 ⟨3, 1, 0⟩).1 = some 6 := by decide +kernel
theorem hf4 : greach hs8.s.ps 1 6 1 = [17] := by decide +kernel
theorem hf5 : gprot hs8 3 = true := by decide +kernel
theorem hf6 : (gloosen hs8 3).1 = true := by decide +kernel
theorem hf7 : gloosen hs9 1 = (false, hs9) := by
  have h : loosens hs9 1 = false := by decide +kernel
  unfold gloosen; rw [h]; rfl
theorem hf8 : gprot hs9 3 = false := by decide +kernel
theorem hf9 : (glook P24 hs9 3).1 = true := by decide +kernel
theorem hf10 : sslot hs10.s.ps 6 0 = some ⟨2, 9, ⟨false, true, true⟩⟩ := by decide +kernel
theorem hf11 : (((sslot hs10.s.ps 6 1).getD slt0).kind, (sslot hs10.s.ps 6 1).isSome) = (0, true) := by decide +kernel
theorem hf12 : (((sslot hs10.s.ps 6 2).getD slt0).kind, (sslot hs10.s.ps 6 2).isSome) = (0, true) := by decide +kernel
end Go.Proofs.Ytldmlmojokicaaa

namespace Go.Proofs.Ytldmlmojokicaaa
open Go.RowKit Go.Shelf Go.Maps

set_option maxRecDepth 100000
theorem hf13 : gprot hs10 3 = true := by decide +kernel
theorem hf14 : hs10.loose = [] := by decide +kernel
theorem hf15 : (greach hs10.s.ps 1 4 1).length = 64 := by decide +kernel
theorem hf16 : (gdrop hs10 6).1 = true := by decide +kernel
theorem hf17 : gprot hs11 3 = false := by decide +kernel
theorem hf18 : sfind hs8.s.ps ⟨1, 3, 0⟩ = some 4 := by decide +kernel
theorem hf19 : sfind hs10.s.ps ⟨1, 3, 0⟩ = some 4 := by decide +kernel
theorem hf20 : hs8.loose.length ≤ 1000 := by decide +kernel
theorem hf21 : hs9.loose.length ≤ 1000 := by decide +kernel
section
variable {w0 w : World} {A : GAd} {V : GVl} {ts : List Thing}
theorem hc1 (H : HG w0 w A P24 V hs0 ts) : Calls Try.prog 21 #[.pointer (some ⟨A.dp, 0, none⟩), .agg #[.int .i64 1, .int .i64 3, .int .i64 0]] w fun e w' => e = .returned (.tuple #[.int .i64 4, .bool true]) ∧ ∃ V', HG w0 w' A P24 V' hs1 ts := by
  have h := gmake_h H 1 3 0
  rw [hf1] at h
  exact h
theorem hc2 (H : HG w0 w A P24 V hs1 ts) : Calls Try.prog 21 #[.pointer (some ⟨A.dp, 0, none⟩), .agg #[.int .i64 2, .int .i64 2, .int .i64 0]] w fun e w' => e = .returned (.tuple #[.int .i64 5, .bool true]) ∧ ∃ V', HG w0 w' A P24 V' hs2 ts := by
  have h := gmake_h H 2 2 0
  rw [hf2] at h
  exact h
theorem hc3 (H : HG w0 w A P24 V hs2 ts) : Calls Try.prog 21 #[.pointer (some ⟨A.dp, 0, none⟩), .agg #[.int .i64 3, .int .i64 1, .int .i64 0]] w fun e w' => e = .returned (.tuple #[.int .i64 6, .bool true]) ∧ ∃ V', HG w0 w' A P24 V' hs3 ts := by
  have h := gmake_h H 3 1 0
  rw [hf3] at h
  exact h
theorem hc10 (H : HG w0 w A P24 V hs8 ts) : Calls Try.prog 31 #[.pointer (some ⟨A.dp, 0, none⟩), .int .i64 1, .int .i64 6, .int .i64 1] w fun e w' => ∃ v, e = .returned v ∧ HG w0 w' A P24 V hs8 (ints v [17] :: ts) := by
  have h := reach_yes H 1 6 4 1 (by omega) hf18
  have e : greach hs8.s.ps 1 6 ((1 : Nat) : Int) = [17] := hf4
  rw [e] at h
  exact h
theorem hc12 (H : HG w0 w A P24 V hs8 ts) : Calls Try.prog 39 #[.pointer (some ⟨A.dp, 0, none⟩), .int .i64 3] w fun e w' => e = .returned (.bool true) ∧ ∃ V', HG w0 w' A P24 V' hs9 ts := by
  have h := loosen_h H hf20 3
  rw [hf6] at h
  exact h
theorem hc13 (H : HG w0 w A P24 V hs9 ts) : Calls Try.prog 39 #[.pointer (some ⟨A.dp, 0, none⟩), .int .i64 1] w fun e w' => e = .returned (.bool false) ∧ ∃ V', HG w0 w' A P24 V' hs9 ts := by
  have h := loosen_h H hf21 1
  rw [hf7] at h
  exact h
theorem hc15 (H : HG w0 w A P24 V hs9 ts) : Calls Try.prog 24 #[.pointer (some ⟨A.dp, 0, none⟩), .int .i64 3] w fun e w' => e = .returned (.bool true) ∧ ∃ V', HG w0 w' A P24 V' hs10 ts := by
  have h := look_h H 3
  rw [hf9] at h
  exact h
theorem hc20 (H : HG w0 w A P24 V hs10 ts) : Calls Try.prog 34 #[.pointer (some ⟨A.dp, 0, none⟩), .int .i64 6] w fun e w' => e = .returned (.bool true) ∧ ∃ V', HG w0 w' A P24 V' hs11 ts := by
  have h := gdrop_h H 6
  rw [hf16] at h
  exact h
end
theorem HG.base {w w1 w2 : World} {A : GAd} {P : Pm} {V : GVl} {G : GS} {ts : List Thing} (H : HG w1 w2 A P V G ts) (hb : Below w.heap.size w w1) : HG w w2 A P V G ts :=
  ⟨hb.trans (H.b.mono hb.size), H.so, fun t ht b h => Nat.le_trans hb.size (H.up t ht b h), H.apart⟩
end Go.Proofs.Ytldmlmojokicaaa

namespace Go.Proofs.Ytldmlmojokicaaa
open Go.RowKit Go.Shelf Go.Maps

set_option maxRecDepth 100000
theorem hf11b : sslot hs10.s.ps 6 1 = some ⟨0, 0, ⟨false, false, false⟩⟩ := by decide +kernel
theorem hf12b : sslot hs10.s.ps 6 2 = some ⟨0, 0, ⟨false, false, false⟩⟩ := by decide +kernel
theorem RowI.form0 {w : World} {v : Value} {l : List Int} (h : RowI w v l) : ∃ a c, v = .slice a l.length c := by
  rcases h.view with ⟨rfl, rfl⟩ | ⟨g, cap, rest, rfl, _⟩
  · exact ⟨_, _, rfl⟩
  · exact ⟨_, _, rfl⟩
theorem hc19 {w0 w : World} {A : GAd} {V : GVl} {ts : List Thing} (H : HG w0 w A P24 V hs10 ts) : Calls Try.prog 31 #[.pointer (some ⟨A.dp, 0, none⟩), .int .i64 1, .int .i64 4, .int .i64 1] w fun e w' => ∃ a c, e = .returned (.slice a 64 c) ∧ ∃ v l, HG w0 w' A P24 V hs10 (ints v l :: ts) := by
  have h := reach_yes H 1 4 4 1 (by omega) hf19
  refine h.mono ?_
  rintro e w' ⟨v, rfl, hv⟩
  obtain ⟨a, c, e1⟩ := (show RowI w' v _ from hv.top).form0
  rw [show (greach hs10.s.ps 1 4 ((1 : Nat) : Int)).length = 64 from hf15] at e1
  exact ⟨a, c, by rw [e1], v, _, hv⟩
set_option maxHeartbeats 4000000 in
theorem ghead_any (w : World) : Calls Try.prog 10 #[] w fun e w' => e = .returned (.bool true) ∧ Below w.heap.size w w' := by
  have b0 := bal w (.cells #[.int .i64 3, .int .i64 0, .int .u64 36903, .int .i64 3, .int .i64 1, .int .u64 40999] 59)
  have k0 := Blk.new w 59 [.int .i64 3, .int .i64 0, .int .u64 36903, .int .i64 3, .int .i64 1, .int .u64 40999]
  obtain ⟨wp, hwp⟩ : ∃ wp, w.alloc (.cells #[.int .i64 3, .int .i64 0, .int .u64 36903, .int .i64 3, .int .i64 1, .int .u64 40999] 59) = wp := ⟨_, rfl⟩
  rw [show w.alloc (.cells ([.int .i64 3, .int .i64 0, .int .u64 36903, .int .i64 3, .int .i64 1, .int .u64 40999] : List Value).toArray 59) = wp from hwp] at k0
  rw [hwp] at b0
  have hps : Ps wp (some ⟨w.heap.size, 0, none⟩) hl0 := .inr ⟨w.heap.size, 0, rfl, k0.lt, fun j hj => by
    rcases j with _ | _ | j
    · exact ⟨by decide, k0.cell (k := 0) rfl, k0.cell (k := 1) rfl, k0.cell (k := 2) rfl⟩
    · exact ⟨by decide, k0.cell (k := 3) rfl, k0.cell (k := 4) rfl, k0.cell (k := 5) rfl⟩
    · have h2 : j + 1 + 1 < 2 := hj
      omega⟩
  have hmd : Calls Try.prog 11 #[.slice (some ⟨w.heap.size, 0, none⟩) 2 2] wp fun e w' => ∃ wb A, e = .returned (.pointer (some ⟨wb, 0, none⟩)) ∧ HG w w' A P24 V24 hs0 [wld wb A] := (gmade_any wp _ 2 hl0 hps (by decide)).mono fun e w' ⟨wb, A, he, h⟩ => ⟨wb, A, he, h.base b0⟩
  have HMd := Lib.hid hmd
  have HW := Lib.hid hwp
  clear hmd hps k0 b0 hwp
  go_enter Try.func10, Try.ntmps10
  go_wp2_with (first
    | (go_at_call 11; rw [HW.out]; (with_reducible refine HMd.out.mono ?_); rintro e W0 ⟨wb, A, rfl, h⟩; have u4 := h.wd.cell (k := 4) rfl; have u2 := h.wd.cell (k := 2) rfl; have ul := h.wd.lt; have HH0 := Lib.hid h; clear h)
    | (go_at_call 21; have hx := hc1 HH0.out; (with_reducible refine hx.mono ?_); rintro e W1 ⟨rfl, V1, h⟩; clear hx; have h' : HG w W1 A P24 _ hs1 [wld wb A] := h; clear u4 u2 ul; have u4 := h'.wd.cell (k := 4) rfl; have u2 := h'.wd.cell (k := 2) rfl; have ul := h'.wd.lt; have HH1 := Lib.hid h'; clear h h')
    | (go_at_call 21; have hx := hc2 HH1.out; (with_reducible refine hx.mono ?_); rintro e W2 ⟨rfl, V2, h⟩; clear hx; have h' : HG w W2 A P24 _ hs2 [wld wb A] := h; clear u4 u2 ul; have u4 := h'.wd.cell (k := 4) rfl; have u2 := h'.wd.cell (k := 2) rfl; have ul := h'.wd.lt; have HH2 := Lib.hid h'; clear h h')
    | (go_at_call 21; have hx := hc3 HH2.out; (with_reducible refine hx.mono ?_); rintro e W3 ⟨rfl, V3, h⟩; clear hx; have h' : HG w W3 A P24 _ hs3 [wld wb A] := h; clear u4 u2 ul; have u4 := h'.wd.cell (k := 4) rfl; have u2 := h'.wd.cell (k := 2) rfl; have ul := h'.wd.lt; have HH3 := Lib.hid h'; clear h h')
    | (go_at_call 37; have hx := child_h HH3.out 4 0 5 true true true; (with_reducible refine hx.mono ?_); rintro e W4 ⟨rfl, h⟩; clear hx; have h' : HG w W4 A P24 _ hs4 [wld wb A] := h; clear u4 u2 ul; have u4 := h'.wd.cell (k := 4) rfl; have u2 := h'.wd.cell (k := 2) rfl; have ul := h'.wd.lt; have HH4 := Lib.hid h'; clear h h')
    | (go_at_call 37; have hx := child_h HH4.out 5 2 6 true true true; (with_reducible refine hx.mono ?_); rintro e W5 ⟨rfl, h⟩; clear hx; have h' : HG w W5 A P24 _ hs5 [wld wb A] := h; clear u4 u2 ul; have u4 := h'.wd.cell (k := 4) rfl; have u2 := h'.wd.cell (k := 2) rfl; have ul := h'.wd.lt; have HH5 := Lib.hid h'; clear h h')
    | (go_at_call 38; have hx := leaf_h HH5.out 6 0 9 33 false true true; (with_reducible refine hx.mono ?_); rintro e W6 ⟨rfl, h⟩; clear hx; have h' : HG w W6 A P24 _ hs6 [wld wb A] := h; clear u4 u2 ul; have u4 := h'.wd.cell (k := 4) rfl; have u2 := h'.wd.cell (k := 2) rfl; have ul := h'.wd.lt; have HH6 := Lib.hid h'; clear h h')
    | (go_at_call 38; have hx := leaf_h HH6.out 6 1 9 33 false true true; (with_reducible refine hx.mono ?_); rintro e W7 ⟨rfl, h⟩; clear hx; have h' : HG w W7 A P24 _ hs7 [wld wb A] := h; clear u4 u2 ul; have u4 := h'.wd.cell (k := 4) rfl; have u2 := h'.wd.cell (k := 2) rfl; have ul := h'.wd.lt; have HH7 := Lib.hid h'; clear h h')
    | (go_at_call 38; have hx := leaf_h HH7.out 6 2 3 27 true false false; (with_reducible refine hx.mono ?_); rintro e W8 ⟨rfl, h⟩; clear hx; have h' : HG w W8 A P24 _ hs8 [wld wb A] := h; clear u4 u2 ul; have u4 := h'.wd.cell (k := 4) rfl; have u2 := h'.wd.cell (k := 2) rfl; have ul := h'.wd.lt; have HH8 := Lib.hid h'; clear h h')
    | (go_at_call 31; have hx := hc10 HH8.out; (with_reducible refine hx.mono ?_); rintro e W9 ⟨v9, rfl, h⟩; clear hx; have h' : HG w W9 A P24 _ hs8 [ints v9 [17], wld wb A] := h; clear u4 u2 ul; have u4 := h'.wd2.cell (k := 4) rfl; have u2 := h'.wd2.cell (k := 2) rfl; have ul := h'.wd2.lt; have HH9 := Lib.hid h'; clear h h')
    | (go_at_call 17; have hx := gprot_any HH9.out 3; rw [hf5] at hx; (with_reducible refine hx.mono ?_); rintro e W10 ⟨rfl, b10⟩; clear hx; have h := HH9.out.past b10; clear b10; have h' : HG w W10 A P24 _ hs8 [ints v9 [17], wld wb A] := h; clear u4 u2 ul; have u4 := h'.wd2.cell (k := 4) rfl; have u2 := h'.wd2.cell (k := 2) rfl; have ul := h'.wd2.lt; have HH10 := Lib.hid h'; clear h h')
    | (go_at_call 39; have hx := hc12 HH10.out; (with_reducible refine hx.mono ?_); rintro e W11 ⟨rfl, V11, h⟩; clear hx; have h' : HG w W11 A P24 _ hs9 [ints v9 [17], wld wb A] := h; clear u4 u2 ul; have u4 := h'.wd2.cell (k := 4) rfl; have u2 := h'.wd2.cell (k := 2) rfl; have ul := h'.wd2.lt; have HH11 := Lib.hid h'; clear h h')
    | (go_at_call 39; have hx := hc13 HH11.out; (with_reducible refine hx.mono ?_); rintro e W12 ⟨rfl, V12, h⟩; clear hx; have h' : HG w W12 A P24 _ hs9 [ints v9 [17], wld wb A] := h; clear u4 u2 ul; have u4 := h'.wd2.cell (k := 4) rfl; have u2 := h'.wd2.cell (k := 2) rfl; have ul := h'.wd2.lt; have HH12 := Lib.hid h'; clear h h')
    | (go_at_call 17; have hx := gprot_any HH12.out 3; rw [hf8] at hx; (with_reducible refine hx.mono ?_); rintro e W13 ⟨rfl, b13⟩; clear hx; have h := HH12.out.past b13; clear b13; have h' : HG w W13 A P24 _ hs9 [ints v9 [17], wld wb A] := h; clear u4 u2 ul; have u4 := h'.wd2.cell (k := 4) rfl; have u2 := h'.wd2.cell (k := 2) rfl; have ul := h'.wd2.lt; have HH13 := Lib.hid h'; clear h h')
    | (go_at_call 24; have hx := hc15 HH13.out; (with_reducible refine hx.mono ?_); rintro e W14 ⟨rfl, V14, h⟩; clear hx; have h' : HG w W14 A P24 _ hs10 [ints v9 [17], wld wb A] := h; clear u4 u2 ul; have u4 := h'.wd2.cell (k := 4) rfl; have u2 := h'.wd2.cell (k := 2) rfl; have ul := h'.wd2.lt; have HH14 := Lib.hid h'; clear h h')
    | (go_at_call 27; have hx := sslot_any HH14.out.sx 6 0 _ hf10; (with_reducible refine hx.mono ?_); rintro e W15 ⟨rfl, b15⟩; clear hx; have h := (HH14.out.past b15).add (bal W15 (.cells #[.int .i64 2, .int .i64 9, .bool false, .bool true, .bool true] 62)) (box W15.heap.size 62 [.int .i64 2, .int .i64 9, .bool false, .bool true, .bool true]) (Blk.new W15 _ [_, _, _, _, _]) (fun b e => Nat.le_of_eq e.symm); have wdh : Blk _ wb 34 (wldC A) := Hold.at h 7 rfl; have ul0 := ul; clear u4 u2 ul; have u4 := wdh.cell (k := 4) rfl; have u2 := wdh.cell (k := 2) rfl; have ul := wdh.lt; clear wdh ul0; have HH15 := Lib.hid h; clear h b15)
    | (go_at_call 27; have hx := sslot_any HH15.out.sx 6 1 _ hf11b; (with_reducible refine hx.mono ?_); rintro e W16 ⟨rfl, b16⟩; clear hx; have h := (HH15.out.past b16).add (bal W16 (.cells #[.int .i64 0, .int .i64 0, .bool false, .bool false, .bool false] 62)) (box W16.heap.size 62 [.int .i64 0, .int .i64 0, .bool false, .bool false, .bool false]) (Blk.new W16 _ [_, _, _, _, _]) (fun b e => Nat.le_of_eq e.symm); have wdh : Blk _ wb 34 (wldC A) := Hold.at h 8 rfl; have ul0 := ul; clear u4 u2 ul; have u4 := wdh.cell (k := 4) rfl; have u2 := wdh.cell (k := 2) rfl; have ul := wdh.lt; clear wdh ul0; have HH16 := Lib.hid h; clear h b16)
    | (go_at_call 27; have hx := sslot_any HH16.out.sx 6 2 _ hf12b; (with_reducible refine hx.mono ?_); rintro e W17 ⟨rfl, b17⟩; clear hx; have h := (HH16.out.past b17).add (bal W17 (.cells #[.int .i64 0, .int .i64 0, .bool false, .bool false, .bool false] 62)) (box W17.heap.size 62 [.int .i64 0, .int .i64 0, .bool false, .bool false, .bool false]) (Blk.new W17 _ [_, _, _, _, _]) (fun b e => Nat.le_of_eq e.symm); have wdh : Blk _ wb 34 (wldC A) := Hold.at h 9 rfl; have ul0 := ul; clear u4 u2 ul; have u4 := wdh.cell (k := 4) rfl; have u2 := wdh.cell (k := 2) rfl; have ul := wdh.lt; clear wdh ul0; have HH17 := Lib.hid h; clear h b17)
    | (go_at_call 40; have g := HH17.out.past (bal _ (.cells #[.int .i64 17] 3)); have hr : RowI ((W17.alloc (.cells #[.int .i64 0, .int .i64 0, .bool false, .bool false, .bool false] 62)).alloc (.cells #[.int .i64 17] 3)) (.slice (some ⟨W17.heap.size + 1, 0, none⟩) 1 1) [17] := by { have hk := Blk.new (W17.alloc (.cells #[.int .i64 0, .int .i64 0, .bool false, .bool false, .bool false] 62)) 3 [.int .i64 17]; rw [World.size_alloc] at hk; exact RowI.mk' (rest := []) hk (Nat.le_refl _) (by decide) rfl }; have hx := sameI_any _ v9 _ [17] [17] (show RowI _ v9 [17] from Hold.at g 8 rfl) hr; (with_reducible refine hx.mono ?_); rintro e W18 ⟨rfl, b18⟩; clear hx hr; have h := g.past b18; clear b18 g; have wdh : Blk W18 wb 34 (wldC A) := Hold.at h 9 rfl; clear u4 u2 ul; have u4 := wdh.cell (k := 4) rfl; have u2 := wdh.cell (k := 2) rfl; have ul := wdh.lt; clear wdh; have xk := (show Blk W18 W15.heap.size 62 [.int .i64 2, .int .i64 9, .bool false, .bool true, .bool true] from Hold.at h 7 rfl).cell (k := 0) rfl; have yk := (show Blk W18 W16.heap.size 62 [.int .i64 0, .int .i64 0, .bool false, .bool false, .bool false] from Hold.at h 6 rfl).cell (k := 0) rfl; have zk := (show Blk W18 W17.heap.size 62 [.int .i64 0, .int .i64 0, .bool false, .bool false, .bool false] from Hold.at h 5 rfl).cell (k := 0) rfl; have xl := (show Blk W18 W15.heap.size 62 [.int .i64 2, .int .i64 9, .bool false, .bool true, .bool true] from Hold.at h 7 rfl).lt; have yl := (show Blk W18 W16.heap.size 62 [.int .i64 0, .int .i64 0, .bool false, .bool false, .bool false] from Hold.at h 6 rfl).lt; have zl := (show Blk W18 W17.heap.size 62 [.int .i64 0, .int .i64 0, .bool false, .bool false, .bool false] from Hold.at h 5 rfl).lt; have HH18 := Lib.hid h; clear h)
    | (go_at_call 17; have hx := gprot_any HH18.out 3; rw [hf13] at hx; (with_reducible refine hx.mono ?_); rintro e W19 ⟨rfl, b19⟩; clear hx; have h := HH18.out.past b19; clear b19; have wdh : Blk W19 wb 34 (wldC A) := Hold.at h 9 rfl; clear u4 u2 ul; have u4 := wdh.cell (k := 4) rfl; have u2 := wdh.cell (k := 2) rfl; have ul := wdh.lt; clear wdh; have HH19 := Lib.hid h; clear h)
    | (go_at_call 23; have hx := glist_any HH19.out (by rw [hf14]; decide); rw [hf14] at hx; (with_reducible refine hx.mono ?_); rintro e W20 ⟨⟨v20, rfl, r20⟩, b20⟩; clear hx; obtain ⟨a20, c20, rfl⟩ := r20.form; have h := HH19.out.past b20; clear b20 r20; have wdh : Blk W20 wb 34 (wldC A) := Hold.at h 9 rfl; clear u4 u2 ul; have u4 := wdh.cell (k := 4) rfl; have u2 := wdh.cell (k := 2) rfl; have ul := wdh.lt; clear wdh; have HH20 := Lib.hid h; clear h)
    | (go_at_call 31; have hx := hc19 HH20.out; (with_reducible refine hx.mono ?_); rintro e W21 ⟨a21, c21, rfl, v21, l21, h⟩; clear hx; have wdh : Blk W21 wb 34 (wldC A) := Hold.at h 10 rfl; clear u4 u2 ul; have u4 := wdh.cell (k := 4) rfl; have u2 := wdh.cell (k := 2) rfl; have ul := wdh.lt; clear wdh; have HH21 := Lib.hid h; clear h)
    | (go_at_call 34; have hx := hc20 HH21.out; (with_reducible refine hx.mono ?_); rintro e W22 ⟨rfl, V22, h⟩; clear hx; have wdh : Blk W22 wb 34 (wldC A) := Hold.at h 10 rfl; clear u4 u2 ul; have u4 := wdh.cell (k := 4) rfl; have u2 := wdh.cell (k := 2) rfl; have ul := wdh.lt; clear wdh; have HH22 := Lib.hid h; clear h)
    | (go_at_call 17; have hx := gprot_any HH22.out 3; rw [hf17] at hx; (with_reducible refine hx.mono ?_); rintro e W23 ⟨rfl, b23⟩; clear hx; have h := HH22.out.past b23; clear b23; have wdh : Blk W23 wb 34 (wldC A) := Hold.at h 10 rfl; clear u4 u2 ul; have u4 := wdh.cell (k := 4) rfl; have u2 := wdh.cell (k := 2) rfl; have ul := wdh.lt; clear wdh; have HH23 := Lib.hid h; clear h))
  go_ret
  exact ⟨rfl, HH23.out.below⟩
end Go.Proofs.Ytldmlmojokicaaa
