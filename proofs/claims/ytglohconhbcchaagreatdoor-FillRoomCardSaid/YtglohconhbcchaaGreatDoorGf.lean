/- A guard's doors, on: gmap's Host; forbid. A guard's agrees. The document's Agrees. A guard's Look. -/
import Derived.Test.YtglohconhbcchaaGreatDoorGb
namespace Go.Proofs.YtglohconhbcchaaGreatDoor
open Go.RowKit Go.Shelf Go.Maps

theorem set5 {W w0 : World} {b B0 : Nat} {T : TypeId} {x0 x1 x2 x3 x4 : Value} (v0 v1 v2 v3 v4 : Value) (h : Blk W b T [x0, x1, x2, x3, x4]) (hB : Below B0 w0 W) (hb : B0 ≤ b) :
    Blk (((((W.setCell ⟨b, 0, none⟩ v0).setCell ⟨b, 1, none⟩ v1).setCell ⟨b, 2, none⟩ v2).setCell ⟨b, 3, none⟩ v3).setCell ⟨b, 4, none⟩ v4) b T [v0, v1, v2, v3, v4] ∧
    Below B0 w0 (((((W.setCell ⟨b, 0, none⟩ v0).setCell ⟨b, 1, none⟩ v1).setCell ⟨b, 2, none⟩ v2).setCell ⟨b, 3, none⟩ v3).setCell ⟨b, 4, none⟩ v4) :=
  ⟨((((h.set 0 v0).set 1 v1).set 2 v2).set 3 v3).set 4 v4,
   ((((hB.setCell (p := ⟨b, 0, none⟩) hb v0).setCell (p := ⟨b, 1, none⟩) hb v1).setCell (p := ⟨b, 2, none⟩) hb v2).setCell (p := ⟨b, 3, none⟩) hb v3).setCell (p := ⟨b, 4, none⟩) hb v4⟩
theorem host_g {w0 w : World} {A : GAd} {P : Pm} {V : GVl} {G : GS} {ts : List Thing} (H : HG w0 w A P V G ts) (g : Int) :
    Calls Tryz.prog 105 #[.pointer (some ⟨A.gp, 0, none⟩), .int .i64 g] w
      fun e w' => e = .returned (.tuple #[.int .i64 (((ghost P g).getD 0 : Nat) : Int), .bool (ghost P g).isSome]) ∧ w = w' := by
  obtain ⟨g1, g2, ⟨sp, g3⟩, g4, g5⟩ := H.guest
  have c1 := g2.cell (k := 0) rfl
  have lg := g2.lt
  by_cases hc : 0 ≤ g ∧ g < P.hosts.length
  · obtain ⟨k, rfl⟩ := Int.eq_ofNat_of_zero_le hc.1
    have hk : k < P.hosts.length := by omega
    obtain ⟨h, hh⟩ : ∃ h, P.hosts.getD k 0 = h := ⟨_, rfl⟩
    have d1 : w.cell? ⟨A.hb, k, none⟩ = some (.int .i64 (h : Int)) := g3.cell (by rw [List.getElem?_append_left (by simpa using hk)]; simp [List.getElem?_eq_getElem hk, i64, ← hh, List.getD])
    have ld := g3.lt
    have e : ghost P (k : Int) = some h := by
      unfold ghost
      rw [if_pos hc, ← hh, List.getD, Int.toNat_natCast, List.getElem?_eq_getElem hk]; rfl
    rw [e]
    obtain ⟨n, hn⟩ : ∃ n, P.hosts.length = n := ⟨_, rfl⟩
    rw [hn] at c1 g4 hk
    clear hh g1 g2 g3 g5 hc e hn H
    go_enter Tryz.func105, Tryz.ntmps105
    go_wp2
    go_ret2
    exact ⟨rfl, rfl⟩
  · have e : ghost P g = none := by unfold ghost; rw [if_neg hc]
    rw [e]
    obtain ⟨n, hn⟩ : ∃ n, P.hosts.length = n := ⟨_, rfl⟩
    rw [hn] at c1 g4 hc
    by_cases ha : g < 0
    · clear g1 g2 g3 g5 hc e hn H
      go_enter Tryz.func105, Tryz.ntmps105
      go_wp2
      go_ret2
      exact ⟨rfl, rfl⟩
    · obtain ⟨g, rfl⟩ := Int.eq_ofNat_of_zero_le (by omega : 0 ≤ g)
      have hb' : n ≤ g := by omega
      clear g1 g2 g3 g5 hc e hn ha H
      go_enter Tryz.func105, Tryz.ntmps105
      go_wp2
      go_ret2
      exact ⟨rfl, rfl⟩
set_option maxRecDepth 100000 in
set_option maxHeartbeats 2000000 in
theorem forbid_h {w0 w : World} {A : GAd} {P : Pm} {V : GVl} {G : GS} {ts : List Thing} (H : HG w0 w A P V G ts) (g : Int) :
    Calls Tryz.prog 112 #[.pointer (some ⟨A.dp, 0, none⟩), .int .i64 g] w
      fun e w' => (∃ r, e = .returned r) ∧ ∃ V', HG w0 w' A P V' (gforbid P G g) ts := by
  have hho := host_g H g
  have hle := leaves_any H.sx g
  have hsl := stold_len H.inv 2 g
  have c1 := H.dx.hdr.cell (k := 1) rfl
  have c2 := H.dx.hdr.cell (k := 2) rfl
  have ld := H.dx.hdr.lt
  have hp : gforbid P G g = (stold G.s.ps 2 g).foldl (forbid1 P g) G := rfl
  rw [hp]
  obtain ⟨L, hL⟩ : ∃ L, stold G.s.ps 2 g = L := ⟨_, rfl⟩
  rw [hL] at hle hsl ⊢
  obtain ⟨n, hn⟩ : ∃ n, L.length = n := ⟨_, rfl⟩
  rw [hn] at hsl
  obtain ⟨hh, hhh⟩ : ∃ h, (((ghost P g).getD 0 : Nat) : Int) = h := ⟨_, rfl⟩
  obtain ⟨hs, hhs⟩ : ∃ b, (ghost P g).isSome = b := ⟨_, rfl⟩
  rw [hhh, hhs] at hho
  have HHo := Lib.hid hho
  have HLe := Lib.hid hle
  have HH := Lib.hid H
  have HN := Lib.hid hn
  have HF := Lib.hid hhh
  clear hho hle H hp hL hn hhh hhs
  go_enter Tryz.func112, Tryz.ntmps112
  go_wp2_with (first
    | (go_at_call 105; (with_reducible refine HHo.out.mono ?_); rintro e W1 ⟨rfl, rfl⟩)
    | (go_at_call 176; (with_reducible refine HLe.out.mono ?_); rintro e W1 ⟨⟨v, rfl, hv⟩, b1⟩; obtain ⟨a, c, rfl⟩ := hv.form; have h1 : HG w0 W1 A P V G (ats (.slice a L.length c) L :: ts) := HH.out.add b1 (ats (.slice a L.length c) L) (hv.base (Nat.zero_le _)) (fun b hb => hv.lo b hb); rw [HN.out] at h1 ⊢; have HH1 := Lib.hid h1; clear h1 hv))
  go_loopw [7, 8, 9, 26] (fun _ _ _ k wr => ∃ m : Nat, m ≤ n ∧ k = .int .i64 m ∧ ∃ V', HG w0 wr A P V' ((L.take m).foldl (forbid1 P g) G) (ats (.slice a n c) L :: ts)) (fun _ _ _ k _ => n - (intOf k).toNat)
  case atStart => exact ⟨0, by omega, rfl, V, HH1.out⟩
  case round =>
    obtain ⟨m, hm, rfl, V', H3⟩ := hrel
    by_cases hmn : m < n
    · have hmL : m < L.length := by rw [HN.out]; exact hmn
      obtain ⟨bb, cc, hv, lb, d0, d1⟩ := NewA.cell (show NewA 0 wr (.slice a n c) L from H3.top) m hmL
      rw [HN.out] at hv
      obtain ⟨rfl, rfl⟩ : a = some ⟨bb, 0, none⟩ ∧ c = cc := by injection hv with h1 h2 h3; exact ⟨h1, h3⟩
      have ht := foldl_take (forbid1 P g) (0, 0) G L m hmL
      obtain ⟨⟨x1, x2⟩, hx⟩ : ∃ x, L.getD m (0, 0) = x := ⟨_, rfl⟩
      rw [hx] at d0 d1 ht
      obtain ⟨G3, hG3⟩ : ∃ G3, (L.take m).foldl (forbid1 P g) G = G3 := ⟨_, rfl⟩
      rw [hG3] at ht H3
      dsimp only at d0 d1
      obtain ⟨GN, hGN⟩ : ∃ GN, (L.take (m + 1)).foldl (forbid1 P g) G = GN := ⟨_, rfl⟩
      rw [hGN] at ht
      have HGN := Lib.hid hGN
      clear hGN
      unfold forbid1 at ht
      dsimp only at ht
      rw [HF.out] at ht
      have B1 := bal wr (.cells #[.int .i64 x1, .int .i64 x2] 78)
      obtain ⟨o, ho⟩ : ∃ o, sslot G3.s.ps x1 x2 = o := ⟨_, rfl⟩
      rw [ho] at ht
      have hst := fun W (hW : Below wr.heap.size wr W) => sslot_any (H3.past hW).sx x1 x2 o ho
      obtain ⟨⟨xk, xd, ⟨xw, xu, xx⟩⟩, hxo⟩ : ∃ x, o.getD slt0 = x := ⟨_, rfl⟩
      rw [hxo] at hst ht
      dsimp only at hst ht
      obtain ⟨os, hos⟩ : ∃ b, o.isSome = b := ⟨_, rfl⟩
      rw [hos] at hst
      obtain ⟨w1, hw1⟩ : ∃ w1, wr.alloc (.cells #[.int .i64 x1, .int .i64 x2] 78) = w1 := ⟨_, rfl⟩
      have ha := Blk.new wr 78 [.int .i64 x1, .int .i64 x2]
      rw [show (wr.alloc (.cells [Value.int .i64 x1, .int .i64 x2].toArray 78)) = w1 from hw1] at ha
      rw [hw1] at B1
      have H4 := H3.add B1 (box wr.heap.size 78 [.int .i64 x1, .int .i64 x2]) ha (fun b e => Nat.le_of_eq e.symm)
      obtain ⟨ab, hab⟩ : ∃ ab, wr.heap.size = ab := ⟨_, rfl⟩
      rw [hab] at ha H4
      have HB1 := Lib.hid B1
      have HSt := Lib.hid hst
      have HT := Lib.hid ht
      have HH4 := Lib.hid H4
      have HW1 := Lib.hid hw1
      have HAb := Lib.hid hab
      have D1 := H4.dx.hdr
      have a0 := ha.cell (k := 0) rfl
      have a1 := ha.cell (k := 1) rfl
      have la := ha.lt
      have HA := Lib.hid ha
      clear hst ht H3 H4 hx hv hmL B1 ha hw1 hab ho hxo hos hG3
      go_wp2_with fail
      rw [HW1.out, HAb.out]
      have e2 := D1.cell (k := 2) rfl
      have le := D1.lt
      have n1 : A.dp ≠ w1.heap.size := by omega
      have n1' : w1.heap.size ≠ A.dp := by omega
      have n2 : ab ≠ w1.heap.size := by omega
      have n2' : w1.heap.size ≠ ab := by omega
      have HD1 := Lib.hid D1
      clear D1
      go_region_held3 (fun w' => w'.cell? ⟨A.dp, 2, none⟩ = some (.pointer (some ⟨A.sp, 0, none⟩)) ∧ w'.cell? ⟨ab, 0, none⟩ = some (.int .i64 x1) ∧ w'.cell? ⟨ab, 1, none⟩ = some (.int .i64 x2)) (go_keep) (first
        | (go_at_call 23; (with_reducible refine (HSt.out w1.drew (HB1.out.trans ((Below.refl _ w1).drew.mono HB1.out.size))).mono ?_); rintro e W2 ⟨rfl, b2⟩; have q2 := (Below.refl w1.heap.size w1).drew.trans b2; have D2 := HD1.out.past q2; have y2 := D2.cell (k := 2) rfl; have yl := D2.lt; have A2 := HA.out.past q2; have z0 := A2.cell (k := 0) rfl; have z1 := A2.cell (k := 1) rfl; have zl := A2.lt)
        | (go_at_call 23; (with_reducible refine (HSt.out (w1.alloc (.cells #[.int .i64 0, .int .i64 0, .bool false, .bool false, .bool false] 64)).drew (HB1.out.trans ((bal w1 (.cells #[.int .i64 0, .int .i64 0, .bool false, .bool false, .bool false] 64)).drew.mono HB1.out.size))).mono ?_); rintro e W2 ⟨rfl, b2⟩; have q2 := (bal w1 (.cells #[.int .i64 0, .int .i64 0, .bool false, .bool false, .bool false] 64)).drew.trans (b2.mono (by simp)); have D2 := HD1.out.past q2; have y2 := D2.cell (k := 2) rfl; have yl := D2.lt; have A2 := HA.out.past q2; have z0 := A2.cell (k := 0) rfl; have z1 := A2.cell (k := 1) rfl; have zl := A2.lt; have ZP := (Blk.new w1 64 [.int .i64 0, .int .i64 0, .bool false, .bool false, .bool false]).drew.past b2; have zc0 := ZP.cell (k := 0) rfl; have zc1 := ZP.cell (k := 1) rfl; have zc2 := ZP.cell (k := 2) rfl; have zc3 := ZP.cell (k := 3) rfl; have zc4 := ZP.cell (k := 4) rfl; have zcf := fun j => ZP.free j; have zcl := ZP.lt))
      all_goals (first
        | (obtain ⟨P5, q5⟩ := set5 (.int .i64 xk) (.int .i64 xd) (.bool xw) (.bool xu) (.bool xx) ZP q2 (Nat.le_refl _)
           have H5 := HH4.out.add q5 (box w1.heap.size 64 [.int .i64 xk, .int .i64 xd, .bool xw, .bool xu, .bool xx]) P5 (fun b e => Nat.le_of_eq e.symm)
           obtain ⟨pb, hpb⟩ : ∃ t, w1.heap.size = t := ⟨_, rfl⟩
           obtain ⟨W5, hW5⟩ : ∃ W', ((((W2.setCell ⟨w1.heap.size, 0, none⟩ (.int .i64 xk)).setCell ⟨w1.heap.size, 1, none⟩ (.int .i64 xd)).setCell ⟨w1.heap.size, 2, none⟩ (.bool xw)).setCell ⟨w1.heap.size, 3, none⟩ (.bool xu)).setCell ⟨w1.heap.size, 4, none⟩ (.bool xx) = W' := ⟨_, rfl⟩
           rw [hW5] at P5 H5
           rw [hpb] at P5 H5
           rw [hW5, hpb]
           clear hW5 hpb q5 q2 b2 ZP zc0 zc1 zc2 zc3 zc4 zcf zcl D2 y2 yl A2 z0 z1 zl HD1 HA a0 a1 la e2 le HH4 n1 n1' n2 n2')
        | (have bn := bal W2 (.cells #[.int .i64 xk, .int .i64 xd, .bool xw, .bool xu, .bool xx] 64)
           have P5 := Blk.new W2 64 [.int .i64 xk, .int .i64 xd, .bool xw, .bool xu, .bool xx]
           have H5 := (HH4.out.past q2).add bn (box W2.heap.size 64 [.int .i64 xk, .int .i64 xd, .bool xw, .bool xu, .bool xx]) P5 (fun b e => Nat.le_of_eq e.symm)
           obtain ⟨pb, hpb⟩ : ∃ t, W2.heap.size = t := ⟨_, rfl⟩
           obtain ⟨W5, hW5⟩ : ∃ W', W2.alloc (.cells #[.int .i64 xk, .int .i64 xd, .bool xw, .bool xu, .bool xx] 64) = W' := ⟨_, rfl⟩
           rw [show (W2.alloc (.cells ([.int .i64 xk, .int .i64 xd, .bool xw, .bool xu, .bool xx] : List Value).toArray 64)) = W5 from hW5, hpb] at P5
           rw [hW5, hpb] at H5
           rw [hW5, hpb]
           clear hW5 hpb bn q2 b2 D2 y2 yl A2 z0 z1 zl HD1 HA a0 a1 la e2 le HH4 n1 n1' n2 n2'))
      all_goals
        have c0 := P5.cell (k := 0) rfl
        have c1 := P5.cell (k := 1) rfl
        have c2 := P5.cell (k := 2) rfl
        have c3 := P5.cell (k := 3) rfl
        have c4 := P5.cell (k := 4) rfl
        have lp := P5.lt
        have hlf := leaf_h H5.drew x1 x2 g hh false xu xx
        have hdd := H5.dx.hdr
        have e2 := hdd.cell (k := 2) rfl
        have le := hdd.lt
        have hat : Blk W5 ab 78 [.int .i64 x1, .int .i64 x2] := H5.top2
        have a0 := hat.cell (k := 0) rfl
        have a1 := hat.cell (k := 1) rfl
        have la := hat.lt
        have HLf := Lib.hid hlf
        have HH5 := Lib.hid H5
        clear hlf hdd hat H5 P5
        cases xw
        · go_wp2_with fail
          go_roundw
          case rel => exact ⟨m + 1, by omega, by simp, V', by rw [HGN.out, HT.out]; exact HH5.out.tail.tail⟩
          case measure => simp [intOf]; omega
        · go_wp2_with fail
          go_region_held3 (fun w' => w'.cell? ⟨A.dp, 2, none⟩ = some (.pointer (some ⟨A.sp, 0, none⟩)) ∧ w'.cell? ⟨ab, 0, none⟩ = some (.int .i64 x1) ∧ w'.cell? ⟨ab, 1, none⟩ = some (.int .i64 x2) ∧ w'.cell? ⟨pb, 3, none⟩ = some (.bool xu) ∧ w'.cell? ⟨pb, 4, none⟩ = some (.bool xx)) (go_keep) (first
            | (go_at_call 136; (with_reducible refine HLf.out.mono ?_); rintro e W6 ⟨rfl, h6⟩; have g2 := h6.dx.hdr.cell (k := 2) rfl; have g3 := h6.dx.hdr.cell (k := 3) rfl; have gl := h6.dx.hdr.lt; have k3 := (show Blk W6 pb 64 _ from h6.top).cell (k := 3) rfl; have k4 := (show Blk W6 pb 64 _ from h6.top).cell (k := 4) rfl; have j0 := (show Blk W6 ab 78 _ from h6.top2).cell (k := 0) rfl; have j1 := (show Blk W6 ab 78 _ from h6.top2).cell (k := 1) rfl; have hfl := flush_h h6; have HFl := Lib.hid hfl; clear hfl h6))
          all_goals
            clear c0 c1 c2 c3 c4 lp e2 le a0 a1 la HH5 HLf k3 k4 j0 j1
            go_wp2_with (go_at_call 110; (with_reducible refine HFl.out.mono ?_); rintro e W7 ⟨⟨r, rfl⟩, h7⟩; have HH7 := Lib.hid h7; clear h7)
            go_roundw
            case rel => exact ⟨m + 1, by omega, by simp, _, by rw [HGN.out, HT.out]; exact HH7.out.tail.tail⟩
            case measure => simp [intOf]; omega
    · obtain rfl : m = n := by omega
      rw [List.take_of_length_le (by rw [HN.out]; exact Nat.le_refl _)] at H3
      have HH3 := Lib.hid H3
      clear H3
      go_wp2
      refine bodyPost_end (results_none rfl _ _ _) rfl ⟨⟨_, rfl⟩, V', HH3.out.tail⟩
end Go.Proofs.YtglohconhbcchaaGreatDoor

namespace Go.Proofs.YtglohconhbcchaaGreatDoor
open Go.RowKit Go.Shelf Go.Maps

set_option maxRecDepth 100000 in
set_option maxHeartbeats 4000000 in
theorem agrees_any (w : World) (x : Slt) (e : Pte) :
    Calls Tryz.prog 113 #[.agg #[.int .i64 x.kind, .int .i64 x.dst, .bool x.r.w, .bool x.r.u, .bool x.r.x], .agg e.val] w
      fun r w' => r = .returned (.bool (agrees x e)) ∧ Below w.heap.size w w' := by
  obtain ⟨xk, xd, ⟨xw, xu, xx⟩⟩ := x
  obtain ⟨ep, ew, eu, ea, ed, eps, enx, ebad, ef⟩ := e
  have b1 := bal w (.cells #[.int .i64 xk, .int .i64 xd, .bool xw, .bool xu, .bool xx] 64)
  have b2 := bal (w.alloc (.cells #[.int .i64 xk, .int .i64 xd, .bool xw, .bool xu, .bool xx] 64)) (.cells #[.bool ep, .bool ew, .bool eu, .bool ea, .bool ed, .bool eps, .bool enx, .bool ebad, .int .i64 (ef : Int)] 134)
  have bb := b1.trans (b2.mono b1.size)
  have HB := Lib.hid bb
  clear bb b1 b2
  unfold agrees Pte.val
  dsimp only
  go_enter Tryz.func113, Tryz.ntmps113
  cases ep
  · go_wp2_with fail
    go_ret
    exact ⟨rfl, HB.out⟩
  cases ea
  · go_wp2_with fail
    go_ret
    exact ⟨rfl, HB.out⟩
  cases ebad
  rotate_left
  · go_wp2_with fail
    go_ret
    exact ⟨rfl, HB.out⟩
  cases eps
  rotate_left
  · go_wp2_with fail
    go_ret
    exact ⟨rfl, HB.out⟩
  by_cases hf : (ef : Int) = xd
  rotate_left
  · have f1 : ((ef : Int) == xd) = false := beq_eq_false_iff_ne.2 hf
    have f2 : ((ef : Int) != xd) = true := bne_iff_ne.2 hf
    have f3 : decide ((ef : Int) = xd) = false := decide_eq_false hf
    rw [f3]
    clear f3 hf
    go_wp2_with fail
    go_ret
    exact ⟨rfl, HB.out⟩
  subst hf
  rw [show decide ((ef : Int) = (ef : Int)) = true from decide_eq_true rfl]
  cases xu <;> cases eu <;> first
    | (go_wp2_with fail
       go_ret
       exact ⟨rfl, HB.out⟩)
    | (cases xx <;> cases enx <;> first
        | (go_wp2_with fail
           go_ret
           exact ⟨rfl, HB.out⟩)
        | (cases xw
           · go_wp2_with fail
             go_ret
             exact ⟨rfl, HB.out⟩
           · cases ew
             · go_wp2_with fail
               go_ret
               exact ⟨rfl, HB.out⟩
             · go_wp2_with fail
               go_ret
               exact ⟨rfl, HB.out⟩))
end Go.Proofs.YtglohconhbcchaaGreatDoor

namespace Go.Proofs.YtglohconhbcchaaGreatDoor
open Go.RowKit Go.Shelf Go.Maps

set_option maxRecDepth 100000 in
set_option maxHeartbeats 4000000 in
theorem ragrees_any (w : World) (x : Slt) (e : Pte) :
    Calls Tryz.prog 154 #[.agg #[.int .i64 x.kind, .int .i64 x.dst, .bool x.r.w, .bool x.r.u, .bool x.r.x], .agg e.val] w
      fun r w' => r = .returned (.bool (agrees x e)) ∧ Below w.heap.size w w' := by
  obtain ⟨xk, xd, ⟨xw, xu, xx⟩⟩ := x
  obtain ⟨ep, ew, eu, ea, ed, eps, enx, ebad, ef⟩ := e
  have b1 := bal w (.cells #[.int .i64 xk, .int .i64 xd, .bool xw, .bool xu, .bool xx] 64)
  have b2 := bal (w.alloc (.cells #[.int .i64 xk, .int .i64 xd, .bool xw, .bool xu, .bool xx] 64)) (.cells #[.bool ep, .bool ew, .bool eu, .bool ea, .bool ed, .bool eps, .bool enx, .bool ebad, .int .i64 (ef : Int)] 134)
  have bb := b1.trans (b2.mono b1.size)
  have HB := Lib.hid bb
  clear bb b1 b2
  unfold agrees Pte.val
  dsimp only
  go_enter Tryz.func154, Tryz.ntmps154
  cases ep
  · go_wp2_with fail
    go_ret
    exact ⟨rfl, HB.out⟩
  cases ea
  · go_wp2_with fail
    go_ret
    exact ⟨rfl, HB.out⟩
  cases ebad
  rotate_left
  · go_wp2_with fail
    go_ret
    exact ⟨rfl, HB.out⟩
  cases eps
  rotate_left
  · go_wp2_with fail
    go_ret
    exact ⟨rfl, HB.out⟩
  by_cases hf : (ef : Int) = xd
  rotate_left
  · have f1 : ((ef : Int) == xd) = false := beq_eq_false_iff_ne.2 hf
    have f2 : ((ef : Int) != xd) = true := bne_iff_ne.2 hf
    have f3 : decide ((ef : Int) = xd) = false := decide_eq_false hf
    rw [f3]
    clear f3 hf
    go_wp2_with fail
    go_ret
    exact ⟨rfl, HB.out⟩
  subst hf
  rw [show decide ((ef : Int) = (ef : Int)) = true from decide_eq_true rfl]
  cases xu <;> cases eu <;> first
    | (go_wp2_with fail
       go_ret
       exact ⟨rfl, HB.out⟩)
    | (cases xx <;> cases enx <;> first
        | (go_wp2_with fail
           go_ret
           exact ⟨rfl, HB.out⟩)
        | (cases xw
           · go_wp2_with fail
             go_ret
             exact ⟨rfl, HB.out⟩
           · cases ew
             · go_wp2_with fail
               go_ret
               exact ⟨rfl, HB.out⟩
             · go_wp2_with fail
               go_ret
               exact ⟨rfl, HB.out⟩))
end Go.Proofs.YtglohconhbcchaaGreatDoor

namespace Go.Proofs.YtglohconhbcchaaGreatDoor
open Go.RowKit Go.Shelf Go.Maps

theorem look_take (P : Pm) (g p : Int) (G : GS) (q : Nat) : (List.range (q + 1)).foldl (look1 P g p) G = look1 P g p ((List.range q).foldl (look1 P g p) G) q := by
  rw [List.range_succ, List.foldl_append]; rfl
set_option maxRecDepth 100000 in
set_option maxHeartbeats 4000000 in
theorem look_h {w0 w : World} {A : GAd} {P : Pm} {V : GVl} {G : GS} {ts : List Thing} (H : HG w0 w A P V G ts) (g : Int) :
    Calls Tryz.prog 58 #[.pointer (some ⟨A.dp, 0, none⟩), .int .i64 g] w
      fun e w' => e = .returned (.bool (glook P G g).1) ∧ ∃ V', HG w0 w' A P V' (glook P G g).2 ts := by
  have hlo := gloose_any H g
  cases hb : G.loose.contains g with
  | false =>
    have hp : glook P G g = (false, G) := by unfold glook; rw [hb]; rfl
    rw [hp]
    rw [hb] at hlo
    have HLo := Lib.hid hlo
    have HH := Lib.hid H
    clear hlo H hp hb
    go_enter Tryz.func58, Tryz.ntmps58
    go_wp2_with (go_at_call 71; (with_reducible refine HLo.out.mono ?_); rintro e W1 ⟨rfl, b1⟩)
    go_ret
    exact ⟨rfl, V, HH.out.past b1⟩
  | true =>
    obtain ⟨G1, hG1⟩ : ∃ G1, gforbid P (gtight G g) g = G1 := ⟨_, rfl⟩
    have hp : glook P G g = (true, { (sof G1.s.ps g).foldl (lookP P g) G1 with l := [] }) := by unfold glook; rw [hb, ← hG1]; rfl
    rw [hp]
    rw [hb] at hlo
    have hti := fun W (hW : Below w.heap.size w W) => tight_h (H.past hW) g
    have HLo := Lib.hid hlo
    have HTi := Lib.hid hti
    have HG1 := Lib.hid hG1
    obtain ⟨L, hL⟩ : ∃ L, sof G1.s.ps g = L := ⟨_, rfl⟩
    rw [hL]
    obtain ⟨n, hn⟩ : ∃ n, L.length = n := ⟨_, rfl⟩
    have HL := Lib.hid hL
    have HN := Lib.hid hn
    clear hlo hti H hp hb hG1 hL hn
    go_enter Tryz.func58, Tryz.ntmps58
    go_wp2_with (first
      | (go_at_call 71; (with_reducible refine HLo.out.mono ?_); rintro e W1 ⟨rfl, b1⟩)
      | (go_at_call 108; (with_reducible refine (HTi.out W1 b1).mono ?_); rintro e W2 ⟨⟨r2, rfl⟩, V2, h2⟩; have hfo := forbid_h h2 g; rw [HG1.out] at hfo; have HFo := Lib.hid hfo; clear h2 hfo)
      | (go_at_call 112; (with_reducible refine HFo.out.mono ?_); rintro e W3 ⟨⟨r3, rfl⟩, V3, h3⟩; have d3 := h3.dx.hdr.cell (k := 2) rfl; have l3 := h3.dx.hdr.lt; have hof := sof_any h3.sx g; rw [HL.out] at hof; have hnl := sof_len h3.inv g; rw [HL.out, HN.out] at hnl; have HOf := Lib.hid hof; have HH3 := Lib.hid h3; clear h3 hof)
      | (go_at_call 70; (with_reducible refine HOf.out.mono ?_); rintro e W4 ⟨⟨v, rfl, hv⟩, b4⟩; obtain ⟨a, c, rfl⟩ := hv.form; have h4 : HG w0 W4 A P V3 G1 (ints (.slice a L.length c) L :: ts) := HH3.out.add b4 _ hv.row (fun b hb => hv.lo b hb); rw [HN.out] at h4 ⊢; have HH4 := Lib.hid h4; clear h4 hv))
    go_loopw [6, 7, 8, 9, 10, 11, 29, 33] (fun _ _ _ _ _ _ k _ wr => ∃ m : Nat, m ≤ n ∧ k = .int .i64 m ∧ ∃ V', HG w0 wr A P V' ((L.take m).foldl (lookP P g) G1) (ints (.slice a n c) L :: ts)) (fun _ _ _ _ _ _ k _ _ => n - (intOf k).toNat)
    case atStart => exact ⟨0, by omega, rfl, V3, HH4.out⟩
    case round =>
      obtain ⟨m, hm, rfl, V', H5⟩ := hrel
      clear d3 l3
      by_cases hmn : m < n
      · have hmL : m < L.length := by rw [HN.out]; exact hmn
        obtain ⟨bb, cc, hv, lb, d0⟩ := RowI.at (show RowI wr (.slice a n c) L from H5.top) m hmL
        rw [HN.out] at hv
        obtain ⟨rfl, rfl⟩ : a = some ⟨bb, 0, none⟩ ∧ c = cc := by injection hv with h1 h2 h3; exact ⟨h1, h3⟩
        have ht := foldl_take (lookP P g) 0 G1 L m hmL
        obtain ⟨p, hx⟩ : ∃ x, L.getD m 0 = x := ⟨_, rfl⟩
        rw [hx] at d0 ht
        obtain ⟨GP, hGP⟩ : ∃ GP, (L.take m).foldl (lookP P g) G1 = GP := ⟨_, rfl⟩
        rw [hGP] at ht H5
        have HT := Lib.hid ht
        have HH5 := Lib.hid H5
        clear H5 ht hx hv hmL hGP
        go_wp2_with fail
        go_loopw [7, 8, 9, 10, 11, 33] (fun _ _ _ _ _ k wr => ∃ q : Nat, q ≤ 8 ∧ k = .int .i64 q ∧ ∃ V', HG w0 wr A P V' ((List.range q).foldl (look1 P g p) GP) (ints (.slice (some ⟨bb, 0, none⟩) n c) L :: ts)) (fun _ _ _ _ _ k _ => 8 - (intOf k).toNat)
        case atStart => exact ⟨0, by omega, rfl, V', HH5.out⟩
        case round =>
          obtain ⟨q, hq, rfl, V6, H6⟩ := hrel
          by_cases hq8 : q < 8
          · have ht2 := look_take P g p GP q
            obtain ⟨GQ, hGQ⟩ : ∃ GQ, (List.range q).foldl (look1 P g p) GP = GQ := ⟨_, rfl⟩
            obtain ⟨GN, hGN⟩ : ∃ GN, (List.range (q + 1)).foldl (look1 P g p) GP = GN := ⟨_, rfl⟩
            rw [hGQ] at ht2 H6
            rw [hGN] at ht2
            unfold look1 at ht2
            dsimp only at ht2
            obtain ⟨o, ho⟩ : ∃ o, sslot GQ.s.ps p (q : Int) = o := ⟨_, rfl⟩
            have hst := sslot_any H6.sx p (q : Int) o ho
            rw [ho] at ht2
            obtain ⟨⟨xk, xd, ⟨xw, xu, xx⟩⟩, hxo⟩ : ∃ x, o.getD slt0 = x := ⟨_, rfl⟩
            rw [hxo] at hst ht2
            dsimp only at hst ht2
            obtain ⟨os, hos⟩ : ∃ b, o.isSome = b := ⟨_, rfl⟩
            rw [hos] at hst
            have hvl := rd_lt (hosts := P.hosts) H6.host.bd g (q : Int)
            have hge := fun W (hW : Below wr.heap.size wr W) => get_any W A.p A.gp A.hb A.mb A.fp A.fb P.hosts GQ.s.mem A.cap P.n g (q : Int) (H6.past hW).host (H6.past hW).guest
            obtain ⟨vs, hvs⟩ : ∃ b, (rd P.hosts GQ.s.mem g (q : Int)).isSome = b := ⟨_, rfl⟩
            obtain ⟨v, hvv⟩ : ∃ v, (rd P.hosts GQ.s.mem g (q : Int)).getD 0 = v := ⟨_, rfl⟩
            rw [hvv] at hvl hge ht2
            rw [hvs] at hge
            have hdd := fun W (hW : Below wr.heap.size wr W) => (H6.past hW).dx.hdr
            have hcl := fun W (hW : Below wr.heap.size wr W) => clear_h (H6.past hW) p (q : Int)
            have D0 := H6.dx.hdr
            have e2 := D0.cell (k := 2) rfl
            have le := D0.lt
            have hqz : (q : Int) < 8 := by omega
            have HSt := Lib.hid hst
            have HGe := Lib.hid hge
            have HDd := Lib.hid hdd
            have HCl := Lib.hid hcl
            have HT2 := Lib.hid ht2
            have HH6 := Lib.hid H6
            have HGN := Lib.hid hGN
            have HVl := Lib.hid hvl
            clear hst hge hdd hcl ht2 H6 hGN hvl D0 ho hxo hos hvs hvv hGQ
            by_cases hk : xk = 2
            · subst hk
              have hag := fun W => agrees_any W ⟨2, xd, ⟨xw, xu, xx⟩⟩ (pte v)
              have hpg := fun W => pget_any W v HVl.out
              obtain ⟨ag, hage⟩ : ∃ b, agrees ⟨2, xd, ⟨xw, xu, xx⟩⟩ (pte v) = b := ⟨_, rfl⟩
              have HT3 := HT2.out
              rw [hage] at hag HT3
              dsimp only at hag
              have HAg := Lib.hid hag
              have HPg := Lib.hid hpg
              have HT4 := Lib.hid HT3
              clear hag hpg hage HT3 HT2
              go_wp2_with (first
                | (go_at_call 23; (with_reducible refine HSt.out.mono ?_); rintro e W7 ⟨rfl, b7⟩; have q7 := b7.trans ((bal W7 (.cells #[.int .i64 2, .int .i64 xd, .bool xw, .bool xu, .bool xx] 64)).mono b7.size); have D7 := HDd.out W7 b7; have g0 := D7.cell (k := 0) rfl; have g2 := D7.cell (k := 2) rfl; have gl := D7.lt; have K7 := Blk.new W7 64 [.int .i64 2, .int .i64 xd, .bool xw, .bool xu, .bool xx])
                | (go_at_call 74; (with_reducible refine (HGe.out _ q7).mono ?_); rintro e W8 ⟨rfl, rfl⟩; have D8 := HDd.out _ q7; obtain ⟨pb, hpb⟩ : ∃ t, W7.heap.size = t := ⟨_, rfl⟩; obtain ⟨W8, hW8⟩ : ∃ W', W7.alloc (.cells #[.int .i64 2, .int .i64 xd, .bool xw, .bool xu, .bool xx] 64) = W' := ⟨_, rfl⟩; rw [show (W7.alloc (.cells ([.int .i64 2, .int .i64 xd, .bool xw, .bool xu, .bool xx] : List Value).toArray 64)) = W8 from hW8, hpb] at K7; rw [hW8] at q7 D8; rw [hW8, hpb]; clear hW8 hpb b7 D7 g0 g2 gl e2 le; have k0 := K7.cell (k := 0) rfl; have k1 := K7.cell (k := 1) rfl; have k2 := K7.cell (k := 2) rfl; have k3 := K7.cell (k := 3) rfl; have k4 := K7.cell (k := 4) rfl; have kl := K7.lt; have y2 := D8.cell (k := 2) rfl; have yl := D8.lt; have HD8 := Lib.hid D8; have HK7 := Lib.hid K7; clear D8 K7))
              go_region_held3 (fun w' => w'.cell? ⟨pb, 0, none⟩ = some (.int .i64 2) ∧ w'.cell? ⟨pb, 1, none⟩ = some (.int .i64 xd) ∧ w'.cell? ⟨pb, 2, none⟩ = some (.bool xw) ∧ w'.cell? ⟨pb, 3, none⟩ = some (.bool xu) ∧ w'.cell? ⟨pb, 4, none⟩ = some (.bool xx)) (go_keep) (first
                | (go_at_call 62; (with_reducible refine (HPg.out _).mono ?_); rintro e W9 ⟨rfl, b9⟩; have q9 := (Below.refl W8.heap.size W8).drew.trans b9; have K9 := HK7.out.past q9; have j0 := K9.cell (k := 0) rfl; have j1 := K9.cell (k := 1) rfl; have j2 := K9.cell (k := 2) rfl; have j3 := K9.cell (k := 3) rfl; have j4 := K9.cell (k := 4) rfl; have jl := K9.lt)
                | (go_at_call 113; (with_reducible refine (HAg.out _).mono ?_); rintro e W10 ⟨rfl, b10⟩; have q10 := q9.trans (b10.mono q9.size); have K10 := HK7.out.past q10; have i0 := K10.cell (k := 0) rfl; have i1 := K10.cell (k := 1) rfl; have i2 := K10.cell (k := 2) rfl; have i3 := K10.cell (k := 3) rfl; have i4 := K10.cell (k := 4) rfl; have il := K10.lt; have E10 := HD8.out.past q10; have u2 := E10.cell (k := 2) rfl; have ul := E10.lt))
              all_goals
                have qq := q7.trans (q10.mono q7.size)
                cases ag
                · go_wp2_with (go_at_call 114; (with_reducible refine (HCl.out _ qq).mono ?_); rintro e W11 ⟨rfl, h11⟩; have HH11 := Lib.hid h11; clear h11)
                  go_roundw
                  case rel => exact ⟨q + 1, by omega, by simp, V6, by rw [HGN.out, HT4.out, if_pos (by simp)]; exact HH11.out⟩
                  case measure => simp [intOf]; omega
                · go_wp2_with fail
                  go_roundw
                  case rel => exact ⟨q + 1, by omega, by simp, V6, by rw [HGN.out, HT4.out, if_neg (fun e => by have := e.2; simp at this)]; exact HH6.out.past qq⟩
                  case measure => simp [intOf]; omega
            · have f1 : (xk == 2) = false := beq_eq_false_iff_ne.2 hk
              have HT3 := HT2.out
              rw [if_neg (fun e => hk e.1)] at HT3
              have HT4 := Lib.hid HT3
              clear HT3 HT2 hk
              go_wp2_with (first
                | (go_at_call 23; (with_reducible refine HSt.out.mono ?_); rintro e W7 ⟨rfl, b7⟩; have q7 := b7.trans ((bal W7 (.cells #[.int .i64 xk, .int .i64 xd, .bool xw, .bool xu, .bool xx] 64)).mono b7.size); have D7 := HDd.out W7 b7; have g0 := D7.cell (k := 0) rfl; have g2 := D7.cell (k := 2) rfl; have gl := D7.lt; have K7 := Blk.new W7 64 [.int .i64 xk, .int .i64 xd, .bool xw, .bool xu, .bool xx])
                | (go_at_call 74; (with_reducible refine (HGe.out _ q7).mono ?_); rintro e W8 ⟨rfl, rfl⟩; have D8 := HDd.out _ q7; obtain ⟨pb, hpb⟩ : ∃ t, W7.heap.size = t := ⟨_, rfl⟩; obtain ⟨W8, hW8⟩ : ∃ W', W7.alloc (.cells #[.int .i64 xk, .int .i64 xd, .bool xw, .bool xu, .bool xx] 64) = W' := ⟨_, rfl⟩; rw [show (W7.alloc (.cells ([.int .i64 xk, .int .i64 xd, .bool xw, .bool xu, .bool xx] : List Value).toArray 64)) = W8 from hW8, hpb] at K7; rw [hW8] at q7 D8; rw [hW8, hpb]; clear hW8 hpb b7 D7 g0 g2 gl e2 le; have k0 := K7.cell (k := 0) rfl; have k1 := K7.cell (k := 1) rfl; have k2 := K7.cell (k := 2) rfl; have k3 := K7.cell (k := 3) rfl; have k4 := K7.cell (k := 4) rfl; have kl := K7.lt; have y2 := D8.cell (k := 2) rfl; have yl := D8.lt; have HD8 := Lib.hid D8; have HK7 := Lib.hid K7; clear D8 K7))
              go_quiet (fail)
              go_wp2_with fail
              go_roundw
              case rel => exact ⟨q + 1, by omega, by simp, V6, by rw [HGN.out, HT4.out]; exact (HH6.out.past q7).drewN _⟩
              case measure => simp [intOf]; omega
          · obtain rfl : q = 8 := by omega
            have HH6 := Lib.hid H6
            clear H6 HH5
            go_wp2_with fail
            go_roundw
            case rel => exact ⟨m + 1, by omega, by simp, V6, by rw [HT.out]; exact HH6.out⟩
            case measure => simp [intOf]; omega
      · obtain rfl : m = n := by omega
        rw [List.take_of_length_le (by rw [HN.out]; exact Nat.le_refl _)] at H5
        have d3 := H5.dx.hdr.cell (k := 3) rfl
        have l3 := H5.dx.hdr.lt
        have hf := flush_h H5.tail
        have HF := Lib.hid hf
        clear H5 hf
        go_wp2_with (go_at_call 110; (with_reducible refine HF.out.mono ?_); rintro e W7 ⟨⟨r, rfl⟩, h7⟩; have HH7 := Lib.hid h7; clear h7)
        go_ret
        exact ⟨rfl, _, HH7.out⟩
end Go.Proofs.YtglohconhbcchaaGreatDoor
