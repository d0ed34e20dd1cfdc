/- Layer 17's law: do at all operations; its live question, walked. -/
import Derived.Test.YtglohconhbcchaaGreatDoorFd
import Derived.Test.YtglohconhbcchaaGreatDoorFhp
import Derived.Laws.StructEq
namespace Go.Proofs.YtglohconhbcchaaGreatDoor
open Go.RowKit Go.Shelf Go.Maps

def Opf.cells (o : Opf) : List Value := [.int .i64 o.k, .int .i64 o.root, .int .i64 o.page, .int .i64 o.kind, .bool o.user, .int .i64 o.g, .int .i64 o.i, .int .u64 (o.v : Int), .int .i64 o.n]
theorem GInv.few17 {P : Pm} {G : GS} (h : GInv P G) : G.loose.length ≤ 1000 := by
  have h1 := loose_le h
  have h2 := h.s.le
  omega
theorem fdo_any {w0 w : World} {A : GAd} {P : Pm} {V : GVl} {G : GS} {F : FA} {ts : List Thing} {wb : Nat} (H : HG w0 w A P V G (fths F A P (wld wb A :: ts))) (hE : EC w0) (h0 : 1 ≤ w0.heap.size) (hI : GInv P G) (o : Opf) (hv : o.v < 2 ^ 64) :
    Calls Tryz.prog 16 #[.pointer (some ⟨wb, 0, none⟩), .pointer (some ⟨F.fl, 0, none⟩), .agg o.cells.toArray] w
      fun e w' => ∃ u, e = .returned (.tuple #[u, .bool (fdo P G o).1.is, .int .i64 (fdo P G o).1.how]) ∧ ∃ V', HG w0 w' A P V' (fdo P G o).2 (ints u (fdo P G o).1.anew :: fths F A P (wld wb A :: ts)) := by
  obtain ⟨k, root, page, kind, user, g, i, v, n⟩ := o
  have hl := hI.few17
  by_cases h4 : k = 4
  · subst h4; exact fdo_4 H hl root page kind user g i v n
  by_cases h5 : k = 5
  · subst h5; exact fdo_5 H root page kind user g i v n hv
  by_cases h6 : k = 6
  · subst h6; exact fdo_6 H hl root page kind user g i v n
  by_cases h7 : k = 7
  · subst h7
    have e : fdo P G ⟨7, root, page, kind, user, g, i, v, n⟩ = if 0 < (sall G.s.ps).length ∧ 0 ≤ n then (⟨[], (gdrop G ((sall G.s.ps).getD (n % ((sall G.s.ps).length : Int)).toNat 0)).1, 0⟩, (gdrop G ((sall G.s.ps).getD (n % ((sall G.s.ps).length : Int)).toNat 0)).2) else (⟨[], true, 0⟩, G) := rfl
    rw [e]
    by_cases hy : 0 < (sall G.s.ps).length ∧ 0 ≤ n
    · rw [if_pos hy]; exact fdo_7y H root page kind user g i v n hy.1 hy.2
    · rw [if_neg hy]; exact fdo_7n H root page kind user g i v n hy
  by_cases h8 : k = 8
  · subst h8; exact fdo_8 H root page kind user g i v n
  by_cases h9 : k = 9
  · subst h9; exact fdo_9 H root page kind user g i v n
  have e : fdo P G ⟨k, root, page, kind, user, g, i, v, n⟩ = fwalk P G ⟨k, root, page, kind, user, g, i, v, n⟩ := by
    unfold fdo
    rw [if_neg h4, if_neg h5, if_neg h6, if_neg h7, if_neg h8, if_neg h9]
  rw [e]
  exact fdo_w H hE h0 k h4 h5 h6 h7 h8 h9 root page kind user g i v n
/-- a thing ahead of a filler's goes behind the law's world -/
theorem HG.behind {w0 w : World} {A : GAd} {P : Pm} {V : GVl} {G : GS} {F : FA} {x y : Thing} {ts : List Thing} (H : HG w0 w A P V G (x :: fths F A P (y :: ts))) : HG w0 w A P V G (fths F A P (y :: x :: ts)) :=
  Hold.perm H (List.Perm.append_left _ (((List.Perm.refl _).cons _ |>.trans (List.perm_append_comm_assoc [x] [box F.fl 156 (fcells A F.gp), mapt F.gp F.hb F.mb F.cap P.hosts, y] ts)).symm.trans (List.Perm.refl _)))
theorem tlbNew4 (w : World) : Calls Tryz.prog 14 #[.int .i64 4] w
    fun e w' => e = .returned (.pointer (some ⟨w.heap.size, 0, none⟩)) ∧ w' = w.alloc (.cells #[.int .i64 4, .slice none 0 0] 117) := by
  go_enter Tryz.func14, Tryz.ntmps14
  go_wp2
  go_ret
  exact ⟨rfl, rfl⟩
set_option maxRecDepth 100000 in
theorem right_eql (w : World) (a b c a' b' c' : Bool) : (binOp .eql 48 (.agg #[.bool a, .bool b, .bool c]) (.agg #[.bool a', .bool b', .bool c'])).run Tryz.prog w = .ok (.bool (decide ((⟨a, b, c⟩ : Rt) = ⟨a', b', c'⟩))) w := by
  have u2 := Tryz.underlying48
  have u4 := Tryz.underlying4
  have hp2 : Tryz.prog.stoodInHeld 48 = false := by kernel_rfl
  have hg1 : Tryz.prog.eqGuardType Tryz.prog.depth 48 = false := by kernel_rfl
  go_simp
  repeat' split
  all_goals simp_all
def tbx (tb : Nat) : Thing := box tb 117 [.int .i64 4, .slice none 0 0]
def mbx (mb tb fp : Nat) : Thing := box mb 119 [.pointer (some ⟨tb, 0, none⟩), .pointer (some ⟨fp, 0, none⟩)]
theorem fI0 : GInv P24 fG0 := (FM24 _ (gputs_len _)).1.1
theorem fI1 : GInv P24 fG1 := (fdo_inv POk24 (FM24 _ (gputs_len _)).1 fo1).1
theorem fF1 : FInv P24 fG1 := fdo_inv POk24 (FM24 _ (gputs_len _)).1 fo1
theorem fF2 : FInv P24 fG2 := fdo_inv POk24 fF1 fo1
theorem fF3 : FInv P24 fG3 := fdo_inv POk24 fF2 fo3
theorem fF4 : FInv P24 fG4 := fdo_inv POk24 fF3 fo4
theorem HG.tb1 {w0 w : World} {A : GAd} {P : Pm} {V : GVl} {G : GS} {wb tb : Nat} (H : HG w0 w A P V G [tbx tb, wld wb A]) : HG w0 w A P V G (wld wb A :: [tbx tb]) := HG.swap H
section
variable {w0 w : World} {A : GAd} {V : GVl} {F : FA} {ts : List Thing} {wb : Nat} (hE : EC w0) (h0 : 1 ≤ w0.heap.size)
include hE h0
theorem fdc1 (H : HG w0 w A P24 V fG0 (fths F A P24 (wld wb A :: ts))) :
    Calls Tryz.prog 16 #[.pointer (some ⟨wb, 0, none⟩), .pointer (some ⟨F.fl, 0, none⟩), .agg #[.int .i64 0, .int .i64 1, .int .i64 5, .int .i64 0, .bool true, .int .i64 0, .int .i64 0, .int .u64 0, .int .i64 0]] w fun e w' => ∃ a c h, e = .returned (.tuple #[.slice a 73 c, .bool true, .int .i64 h]) ∧ ∃ V', HG w0 w' A P24 V' fG1 (fths F A P24 (wld wb A :: ts)) := by
  refine (fdo_any H hE h0 fI0 fo1 (by decide)).mono ?_
  rintro e w' ⟨u, rfl, V', h⟩
  obtain ⟨a, n, c, e1⟩ := row_form (show RowI w' u _ from h.top)
  have hlen : n = 73 := by
    rcases (show RowI w' u _ from h.top).view with ⟨e2, e3⟩ | ⟨g, cap, rest, e2, _⟩
    · exact absurd fh_a.1 (by rw [e3]; decide)
    · rw [e1] at e2; exact (Value.slice.inj e2).2.1.trans fh_a.1
  subst hlen
  subst e1
  exact ⟨a, c, _, by rw [fh_a.2], V', h.tail⟩
theorem fdc2 (H : HG w0 w A P24 V fG1 (fths F A P24 (wld wb A :: ts))) :
    Calls Tryz.prog 16 #[.pointer (some ⟨wb, 0, none⟩), .pointer (some ⟨F.fl, 0, none⟩), .agg #[.int .i64 0, .int .i64 1, .int .i64 5, .int .i64 0, .bool true, .int .i64 0, .int .i64 0, .int .u64 0, .int .i64 0]] w fun e w' => ∃ a c h, e = .returned (.tuple #[.slice a 0 c, .bool true, .int .i64 h]) ∧ ∃ V', HG w0 w' A P24 V' fG2 (fths F A P24 (wld wb A :: ts)) := by
  refine (fdo_any H hE h0 fI1 fo1 (by decide)).mono ?_
  rintro e w' ⟨u, rfl, V', h⟩
  obtain ⟨a, n, c, e1⟩ := row_form (show RowI w' u _ from h.top)
  have hlen : n = 0 := by
    rcases (show RowI w' u _ from h.top).view with ⟨e2, e3⟩ | ⟨g, cap, rest, e2, _⟩
    · rw [e1] at e2; exact (Value.slice.inj e2).2.1
    · rw [e1] at e2; exact (Value.slice.inj e2).2.1.trans (by rw [fh_b.1]; rfl)
  subst hlen
  subst e1
  exact ⟨a, c, _, by rw [fh_b.2], V', h.tail⟩
theorem fdc3 (H : HG w0 w A P24 V fG2 (fths F A P24 (wld wb A :: ts))) :
    Calls Tryz.prog 16 #[.pointer (some ⟨wb, 0, none⟩), .pointer (some ⟨F.fl, 0, none⟩), .agg #[.int .i64 0, .int .i64 1, .int .i64 5, .int .i64 1, .bool false, .int .i64 0, .int .i64 0, .int .u64 0, .int .i64 0]] w fun e w' => ∃ u h, e = .returned (.tuple #[u, .bool true, .int .i64 h]) ∧ ∃ V', HG w0 w' A P24 V' fG3 (fths F A P24 (wld wb A :: ints u [5] :: ts)) := by
  refine (fdo_any H hE h0 fF2.1 fo3 (by decide)).mono ?_
  rintro e w' ⟨u, rfl, V', h⟩
  rw [fh_c.1] at h
  exact ⟨u, _, by rw [fh_c.2], V', h.behind⟩
theorem fdc4 (H : HG w0 w A P24 V fG3 (fths F A P24 (wld wb A :: ts))) :
    Calls Tryz.prog 16 #[.pointer (some ⟨wb, 0, none⟩), .pointer (some ⟨F.fl, 0, none⟩), .agg #[.int .i64 0, .int .i64 1, .int .i64 11, .int .i64 0, .bool false, .int .i64 0, .int .i64 0, .int .u64 0, .int .i64 0]] w fun e w' => ∃ u h, e = .returned (.tuple #[u, .bool true, .int .i64 h]) ∧ ∃ V', HG w0 w' A P24 V' fG4 (fths F A P24 (wld wb A :: ts)) := by
  refine (fdo_any H hE h0 fF3.1 fo4 (by decide)).mono ?_
  rintro e w' ⟨u, rfl, V', h⟩
  exact ⟨u, _, by rw [fh_d], V', h.tail⟩
end
theorem fh_top : ∃ top, sfind fG3.s.ps ⟨1, 3, 0⟩ = some top ∧ mwalk P24.n fG3.s.mem 5 3 top Rt.all = some (33, ⟨true, true, true⟩) ∧ mwalk P24.n fG4.s.mem 11 3 top Rt.all = some (35, ⟨false, true, true⟩) := by
  have h1 := fh_x
  have h2 := fh_y
  cases hs : sfind fG3.s.ps ⟨1, 3, 0⟩ with
  | none => rw [hs] at h1; cases h1
  | some top =>
    rw [hs] at h1 h2
    exact ⟨top, rfl, Option.some.inj h1, Option.some.inj h2⟩
set_option maxRecDepth 100000 in
set_option maxHeartbeats 8000000 in
theorem head17 (w : World) (hE : EC w) : Calls Tryz.prog 10 #[] w fun e w' => e = .returned (.bool true) ∧ Below w.heap.size w w' := by
  have h0 : 1 ≤ w.heap.size := lt_of_cell hE
  have b0 := bal w (.cells #[.int .i64 1, .int .i64 0, .int .u64 8199, .int .i64 2, .int .i64 0, .int .u64 12295, .int .i64 3, .int .i64 5, .int .u64 36871, .int .i64 2, .int .i64 1, .int .u64 32903] 107)
  have k0 := Blk.new w 107 [.int .i64 1, .int .i64 0, .int .u64 8199, .int .i64 2, .int .i64 0, .int .u64 12295, .int .i64 3, .int .i64 5, .int .u64 36871, .int .i64 2, .int .i64 1, .int .u64 32903]
  obtain ⟨wp, hwp⟩ : ∃ wp, w.alloc (.cells #[.int .i64 1, .int .i64 0, .int .u64 8199, .int .i64 2, .int .i64 0, .int .u64 12295, .int .i64 3, .int .i64 5, .int .u64 36871, .int .i64 2, .int .i64 1, .int .u64 32903] 107) = wp := ⟨_, rfl⟩
  rw [show w.alloc (.cells ([.int .i64 1, .int .i64 0, .int .u64 8199, .int .i64 2, .int .i64 0, .int .u64 12295, .int .i64 3, .int .i64 5, .int .u64 36871, .int .i64 2, .int .i64 1, .int .u64 32903] : List Value).toArray 107) = wp from hwp] at k0
  rw [hwp] at b0
  have hps : Ps wp (some ⟨w.heap.size, 0, none⟩) fputs := .inr ⟨w.heap.size, 0, rfl, k0.lt, fun j hj => by
    rcases j with _ | _ | _ | _ | j
    · exact ⟨by decide, k0.cell (k := 0) rfl, k0.cell (k := 1) rfl, k0.cell (k := 2) rfl⟩
    · exact ⟨by decide, k0.cell (k := 3) rfl, k0.cell (k := 4) rfl, k0.cell (k := 5) rfl⟩
    · exact ⟨by decide, k0.cell (k := 6) rfl, k0.cell (k := 7) rfl, k0.cell (k := 8) rfl⟩
    · exact ⟨by decide, k0.cell (k := 9) rfl, k0.cell (k := 10) rfl, k0.cell (k := 11) rfl⟩
    · have h2 : j + 1 + 1 + 1 + 1 < 4 := hj
      omega⟩
  have hmd : Calls Tryz.prog 11 #[.slice (some ⟨w.heap.size, 0, none⟩) 4 4] wp fun e w' => ∃ wb A, e = .returned (.pointer (some ⟨wb, 0, none⟩)) ∧ HG w w' A P24 V24 fG0 [wld wb A] := (gmade_any wp _ 4 fputs hps (by decide)).mono fun e w' ⟨wb, A, he, h⟩ => ⟨wb, A, he, ⟨b0.trans (h.b.mono b0.size), h.so, fun t ht b hb => Nat.le_trans b0.size (h.up t ht b hb), h.apart⟩⟩
  obtain ⟨top, ht1, ht2, ht3⟩ := fh_top
  have hst := Lib.hid ht1
  have hsx := Lib.hid ht2
  have hsy := Lib.hid ht3
  have HMd := Lib.hid hmd
  have HW := Lib.hid hwp
  have HE := Lib.hid hE
  have H0 := Lib.hid h0
  clear hmd hps k0 b0 hwp ht1 ht2 ht3 hE h0
  go_enter Tryz.func10, Tryz.ntmps10
  go_upto_region 13 with (first
    | (go_at_call 11; rw [HW.out]; (with_reducible refine HMd.out.mono ?_); rintro e W0 ⟨wb, A, rfl, h⟩; have HH0 := Lib.hid h; clear h)
    | (go_at_call 14; (with_reducible refine (tlbNew4 _).mono ?_); rintro e W1 ⟨rfl, hW1⟩; have h := (HG.add HH0.out (bal W0 (.cells #[.int .i64 4, .slice none 0 0] 117)) (tbx W0.heap.size) (Blk.new W0 117 [.int .i64 4, .slice none 0 0]) (fun b e => Nat.le_of_eq e.symm)).swap; rw [← hW1] at h; obtain ⟨tb, htb⟩ : ∃ x, W0.heap.size = x := ⟨_, rfl⟩; rw [htb] at h ⊢; have HH1 := Lib.hid h; clear h hW1 htb)
    | (go_at_call 13; (with_reducible refine (made17 HH1.out).mono ?_); rintro e W2 ⟨F, rfl, h⟩; have u0 := (show Blk W2 wb 42 (wldC A) from Hold.at h 7 rfl).cell (k := 0) rfl; have ul := (show Blk W2 wb 42 (wldC A) from Hold.at h 7 rfl).lt; have HH2 := Lib.hid h; clear h)
    | (go_at_call 15; (with_reducible refine (mmuNew _ _ _).mono ?_); rintro e W3 ⟨rfl, hW3⟩; have h : HG w W3 A P24 V24 fG0 (fths F A P24 [wld wb A, mbx W2.heap.size tb A.fp, tbx tb]) := HG.behind (by rw [hW3]; exact HG.add HH2.out (bal W2 (.cells #[.pointer (some ⟨tb, 0, none⟩), .pointer (some ⟨A.fp, 0, none⟩)] 119)) (mbx W2.heap.size tb A.fp) (Blk.new W2 119 [.pointer (some ⟨tb, 0, none⟩), .pointer (some ⟨A.fp, 0, none⟩)]) (fun b e => Nat.le_of_eq e.symm)); obtain ⟨mb, hmb⟩ : ∃ x, W2.heap.size = x := ⟨_, rfl⟩; rw [hmb] at h ⊢; have HH3 := Lib.hid h; clear h hW3 hmb u0 ul)
    | (go_at_call 16; (with_reducible refine (fdc1 HE.out H0.out HH3.out).mono ?_); rintro e W4 ⟨a1, c1, n1, rfl, V4, h⟩; have HH4 := Lib.hid h; clear h)
    | (go_at_call 16; (with_reducible refine (fdc2 HE.out H0.out HH4.out).mono ?_); rintro e W5 ⟨a2, c2, n2, rfl, V5, h⟩; have HH5 := Lib.hid h; clear h)
    | (go_at_call 16; (with_reducible refine (fdc3 HE.out H0.out HH5.out).mono ?_); rintro e W6 ⟨v6, n6, rfl, V6, h⟩; have u2 := (show Blk W6 wb 42 (wldC A) from Hold.at h 7 rfl).cell (k := 2) rfl; have ul := (show Blk W6 wb 42 (wldC A) from Hold.at h 7 rfl).lt; have HH6 := Lib.hid h; clear h)
    | (go_at_call 17; (with_reducible refine (sfind_any (HG.sx HH6.out) 1 3 0 (some top) hst.out).mono ?_); rintro e W7 ⟨rfl, b7⟩; have h := HH6.out.past b7; have HH7 := Lib.hid h; clear h b7 u2 ul))
  have hmw := mwalk_any W7 mb tb A.fp A.fb P24.n fG3.s.mem (show Blk W7 mb 119 [.pointer (some ⟨tb, 0, none⟩), .pointer (some ⟨A.fp, 0, none⟩)] from Hold.at HH7.out 9 rfl) HH7.out.host top 5 _ hsx.out
  have HMw := Lib.hid hmw
  clear hmw
  go_upto_region 14 with (go_at_call 18; (with_reducible refine HMw.out.mono ?_); rintro e W8 ⟨rfl, b8⟩)
  try dsimp only [Option.map_some, Option.getD_some, Option.isSome_some]
  have h8 := HG.behind (HG.add (HH7.out.past b8) (bal W8 (.cells #[.bool true, .bool true, .bool true] 48)) (box W8.heap.size 48 [.bool true, .bool true, .bool true]) (Blk.new W8 48 [.bool true, .bool true, .bool true]) (fun b e => Nat.le_of_eq e.symm))
  obtain ⟨rb, hrb⟩ : ∃ x, W8.heap.size = x := ⟨_, rfl⟩
  obtain ⟨W9, hW9⟩ : ∃ W', W8.alloc (.cells #[.bool true, .bool true, .bool true] 48) = W' := ⟨_, rfl⟩
  rw [hrb, hW9] at h8
  rw [hrb, hW9]
  have HH9 := Lib.hid h8
  clear h8 hrb hW9 b8 HMw
  go_upto_region 15 with (go_at_call 16; (with_reducible refine (fdc4 HE.out H0.out HH9.out).mono ?_); rintro e W10 ⟨v10, n10, rfl, V10, h⟩; have HH10 := Lib.hid h; clear h)
  have hmw := mwalk_any W10 mb tb A.fp A.fb P24.n fG4.s.mem (show Blk W10 mb 119 [.pointer (some ⟨tb, 0, none⟩), .pointer (some ⟨A.fp, 0, none⟩)] from Hold.at HH10.out 10 rfl) HH10.out.host top 11 _ hsy.out
  have HMw := Lib.hid hmw
  clear hmw
  go_upto_region 16 with (go_at_call 18; (with_reducible refine HMw.out.mono ?_); rintro e W11 ⟨rfl, b11⟩)
  try dsimp only [Option.map_some, Option.getD_some, Option.isSome_some]
  have h11 := HG.behind (HG.add (HH10.out.past b11) (bal W11 (.cells #[.bool false, .bool true, .bool true] 48)) (box W11.heap.size 48 [.bool false, .bool true, .bool true]) (Blk.new W11 48 [.bool false, .bool true, .bool true]) (fun b e => Nat.le_of_eq e.symm))
  obtain ⟨sb, hsb⟩ : ∃ x, W11.heap.size = x := ⟨_, rfl⟩
  obtain ⟨W12, hW12⟩ : ∃ W', W11.alloc (.cells #[.bool false, .bool true, .bool true] 48) = W' := ⟨_, rfl⟩
  rw [hsb, hW12] at h11
  rw [hsb, hW12]
  have HH12 := Lib.hid h11
  clear h11 hsb hW12 b11 HMw
  have heq := right_eql
  go_wp2_with (first
    | (go_at_call 30; have g := HH12.out.past (bal W12 (.cells #[.int .i64 5] 3)); have hx := sameI_any _ v6 _ [5] [5] (show RowI _ v6 [5] from Hold.at g 10 rfl) (RowI.mk1 W12 5); (with_reducible refine hx.mono ?_); rintro e W13 ⟨rfl, b13⟩; clear hx; have h := g.past b13; have p0 := (show Blk W13 rb 48 [.bool true, .bool true, .bool true] from Hold.at h 9 rfl).cell (k := 0) rfl; have p1 := (show Blk W13 rb 48 [.bool true, .bool true, .bool true] from Hold.at h 9 rfl).cell (k := 1) rfl; have p2 := (show Blk W13 rb 48 [.bool true, .bool true, .bool true] from Hold.at h 9 rfl).cell (k := 2) rfl; have pl := (show Blk W13 rb 48 [.bool true, .bool true, .bool true] from Hold.at h 9 rfl).lt; have q0 := (show Blk W13 sb 48 [.bool false, .bool true, .bool true] from Hold.at h 8 rfl).cell (k := 0) rfl; have q1 := (show Blk W13 sb 48 [.bool false, .bool true, .bool true] from Hold.at h 8 rfl).cell (k := 1) rfl; have q2 := (show Blk W13 sb 48 [.bool false, .bool true, .bool true] from Hold.at h 8 rfl).cell (k := 2) rfl; have ql := (show Blk W13 sb 48 [.bool false, .bool true, .bool true] from Hold.at h 8 rfl).lt; have x2 := (show Blk W13 wb 42 (wldC A) from Hold.at h 7 rfl).cell (k := 2) rfl; have x4 := (show Blk W13 wb 42 (wldC A) from Hold.at h 7 rfl).cell (k := 4) rfl; have xl := (show Blk W13 wb 42 (wldC A) from Hold.at h 7 rfl).lt; have HH13 := Lib.hid h; clear h b13 g)
    | (go_at_call 21; have hx := left_any HH13.out; rw [fh_l.1] at hx; (with_reducible refine hx.mono ?_); rintro e W14 ⟨rfl, b14⟩; clear hx; have h := HH13.out.past b14; have y2 := (show Blk W14 wb 42 (wldC A) from Hold.at h 7 rfl).cell (k := 2) rfl; have y4 := (show Blk W14 wb 42 (wldC A) from Hold.at h 7 rfl).cell (k := 4) rfl; have yl := (show Blk W14 wb 42 (wldC A) from Hold.at h 7 rfl).lt; have HH14 := Lib.hid h; clear h b14)
    | (go_at_call 24; have hx := gprot_any HH14.out 3; rw [fh_l.2] at hx; (with_reducible refine hx.mono ?_); rintro e W15 ⟨rfl, b15⟩; clear hx; have HH15 := Lib.hid (HH14.out.past b15); clear b15))
  go_ret
  exact ⟨rfl, HH15.out.below⟩
end Go.Proofs.YtglohconhbcchaaGreatDoor
