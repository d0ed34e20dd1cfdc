/- Layer 17's job in memory: its thing; look, ready, lay, link, leaf. -/
import Derived.Test.YtglohconhbcchaaGreatDoorFk
import Derived.Test.YtglohconhbcchaaGreatDoorGx
import Derived.Test.YtglohconhbcchaaGreatDoorLastT
import Derived.Test.YtglohconhbcchaaGreatDoorFp
import Derived.Laws.StructEq
namespace Go.Proofs.YtglohconhbcchaaGreatDoor
open Go.RowKit Go.Shelf Go.Maps

def jcells (F : FA) (root : Int) (pv av : Value) : List Value := [.pointer (some ⟨F.fl, 0, none⟩), .int .i64 root, pv, av]
/-- a filler's things -/
def fths (F : FA) (A : GAd) (P : Pm) (ts : List Thing) : List Thing := box F.fl 156 (fcells A F.gp) :: mapt F.gp F.hb F.mb F.cap P.hosts :: ts
/-- a job's things -/
def jths (F : FA) (jb : Nat) (root : Int) (pv av : Value) (pin an : List Int) (ts : List Thing) : List Thing := box jb 161 (jcells F root pv av) :: ints pv pin :: ints av an :: ts
def JG (w0 w : World) (A : GAd) (P : Pm) (V : GVl) (F : FA) (jb : Nat) (root : Int) (pv av : Value) (J : JS) (ts : List Thing) : Prop := HG w0 w A P V J.G (jths F jb root pv av J.pinned J.anew (fths F A P ts))
section
variable {w0 w : World} {A : GAd} {P : Pm} {V : GVl} {F : FA} {jb : Nat} {root : Int} {pv av : Value} {J : JS} {ts : List Thing} (H : JG w0 w A P V F jb root pv av J ts)
include H
theorem JG.hg : HG w0 w A P V J.G (jths F jb root pv av J.pinned J.anew (fths F A P ts)) := H
theorem JG.j : Blk w jb 161 (jcells F root pv av) := Hold.at H 5 rfl
theorem JG.f : Blk w F.fl 156 (fcells A F.gp) := Hold.at H 8 rfl
theorem JG.m : MapAt w F.gp F.hb F.mb F.cap P.hosts := Hold.at H 9 rfl
theorem JG.pin : RowI w pv J.pinned := Hold.at H 6 rfl
theorem JG.an : RowI w av J.anew := Hold.at H 7 rfl
theorem JG.past {w' : World} (hb : Below w.heap.size w w') : JG w0 w' A P V F jb root pv av J ts := Hold.past H hb
end
theorem fold_range {β : Type} (f : β → Nat → β) (b : β) (n : Nat) : (List.range (n + 1)).foldl f b = f ((List.range n).foldl f b) n := by rw [List.range_succ, List.foldl_append]; rfl
theorem results_no {α : Type} (x : α) : x = x := rfl
set_option maxRecDepth 100000 in
set_option maxHeartbeats 2000000 in
theorem look_j {w0 w : World} {A : GAd} {P : Pm} {V : GVl} {F : FA} {jb : Nat} {root : Int} {pv av : Value} {J : JS} {ts : List Thing} (H : JG w0 w A P V F jb root pv av J ts) (p : Int) :
    Calls Tryz.prog 208 #[.pointer (some ⟨jb, 0, none⟩), .int .i64 p] w
      fun e w' => (∃ r, e = .returned r) ∧ ∃ V', JG w0 w' A P V' F jb root pv av { J with G := jlook P J.G p } ts := by
  have j0 := (H.j).cell (k := 0) rfl
  have f2 := (H.f).cell (k := 2) rfl
  have jl := (H.j).lt
  have fl := (H.f).lt
  have hky := skey_any (HG.sx H.hg) p _ rfl
  obtain ⟨⟨kg, kv, kr⟩, hk0⟩ : ∃ x, (skey J.G.s.ps p).getD key0 = x := ⟨_, rfl⟩
  obtain ⟨ks, hks⟩ : ∃ x, (skey J.G.s.ps p).isSome = x := ⟨_, rfl⟩
  have hp : jlook P J.G p = if kr = 0 then (glook P J.G kg).2 else J.G := by
    unfold jlook
    rw [show (skey J.G.s.ps p).getD ⟨0, 0, 0⟩ = ⟨kg, kv, kr⟩ from hk0]
  rw [hk0, hks] at hky
  rw [hp]
  have HK := Lib.hid hky
  have HH := Lib.hid H
  clear hky H hp hk0 hks
  by_cases h0 : kr = 0
  · subst h0
    rw [if_pos rfl]
    go_enter Tryz.func208, Tryz.ntmps208
    go_upto_region 1 with (first
      | (go_at_call 22; (with_reducible refine HK.out.mono ?_); rintro e W1 ⟨rfl, b1⟩))
    have q1 := b1.trans ((bal W1 (.cells #[.int .i64 kg, .int .i64 kv, .int .i64 0] 54)).mono b1.size)
    have K1 := Blk.new W1 54 [.int .i64 kg, .int .i64 kv, .int .i64 0]
    have hle1 : w.heap.size ≤ W1.heap.size := b1.size
    obtain ⟨kb, hkb⟩ : ∃ b, W1.heap.size = b := ⟨_, rfl⟩
    obtain ⟨W2, hW2⟩ : ∃ W', W1.alloc (.cells #[.int .i64 kg, .int .i64 kv, .int .i64 0] 54) = W' := ⟨_, rfl⟩
    rw [show (W1.alloc (.cells ([.int .i64 kg, .int .i64 kv, .int .i64 0] : List Value).toArray 54)) = W2 from hW2, hkb] at K1
    rw [hW2] at q1
    rw [hkb] at hle1
    rw [hW2, hkb]
    clear hW2 hkb b1
    have h2 : HG w0 W2 A P V J.G (box kb 54 [.int .i64 kg, .int .i64 kv, .int .i64 0] :: jths F jb root pv av J.pinned J.anew (fths F A P ts)) := HH.out.hg.add q1 _ K1 (fun b e => by rw [show b = kb from e]; exact hle1)
    have hl := look_h h2.drew kg
    clear j0 f2 jl fl
    have aj0 := (show Blk W2 jb 161 (jcells F root pv av) from Hold.at h2 6 rfl).cell (k := 0) rfl
    have af3 := (show Blk W2 F.fl 156 (fcells A F.gp) from Hold.at h2 9 rfl).cell (k := 3) rfl
    have afl := (show Blk W2 F.fl 156 (fcells A F.gp) from Hold.at h2 9 rfl).lt
    have ajl := (show Blk W2 jb 161 (jcells F root pv av) from Hold.at h2 6 rfl).lt
    have z0 := K1.cell (k := 0) rfl
    have z2 := K1.cell (k := 2) rfl
    have zl := K1.lt
    have HL := Lib.hid hl
    clear hl h2 K1 q1
    go_wp2_with fail
    go_region_held3 (fun w' => w'.cell? ⟨jb, 0, none⟩ = some (.pointer (some ⟨F.fl, 0, none⟩)) ∧ w'.cell? ⟨F.fl, 3, none⟩ = some (.pointer (some ⟨A.dp, 0, none⟩)) ∧ w'.cell? ⟨kb, 0, none⟩ = some (.int .i64 kg)) (go_keep) (first
      | (go_at_call 58; (with_reducible refine HL.out.mono ?_); rintro e W3 ⟨rfl, V3, h3⟩; have cj0 := (show Blk W3 jb 161 (jcells F root pv av) from Hold.at h3 6 rfl).cell (k := 0) rfl; have cf3 := (show Blk W3 F.fl 156 (fcells A F.gp) from Hold.at h3 9 rfl).cell (k := 3) rfl; have cfl := (show Blk W3 F.fl 156 (fcells A F.gp) from Hold.at h3 9 rfl).lt; have cjl := (show Blk W3 jb 161 (jcells F root pv av) from Hold.at h3 6 rfl).lt; have y0 := (show Blk W3 kb 54 [.int .i64 kg, .int .i64 kv, .int .i64 0] from Hold.at h3 5 rfl).cell (k := 0) rfl; have yl := (show Blk W3 kb 54 [.int .i64 kg, .int .i64 kv, .int .i64 0] from Hold.at h3 5 rfl).lt; have HH3 := Lib.hid h3; clear h3))
    all_goals go_wp2_with fail
    all_goals refine bodyPost_end (results_none rfl _ _ _) rfl ⟨⟨_, rfl⟩, V3, HH3.out.tail⟩
  · rw [if_neg h0]
    have f1 : (kr == 0) = false := beq_eq_false_iff_ne.2 h0
    go_enter Tryz.func208, Tryz.ntmps208
    go_wp2_with (first
      | (go_at_call 22; (with_reducible refine HK.out.mono ?_); rintro e W1 ⟨rfl, b1⟩))
    refine bodyPost_end (results_none rfl _ _ _) rfl ⟨⟨_, rfl⟩, V, HH.out.past (b1.trans ((bal W1 _).mono b1.size))⟩
set_option maxRecDepth 100000 in
set_option maxHeartbeats 2000000 in
theorem ready_j {w0 w : World} {A : GAd} {P : Pm} {V : GVl} {F : FA} {jb : Nat} {root : Int} {pv av : Value} {J : JS} {ts : List Thing} (H : JG w0 w A P V F jb root pv av J ts) (p : Int) :
    Calls Tryz.prog 186 #[.pointer (some ⟨jb, 0, none⟩), .int .i64 p] w
      fun e w' => (∃ r, e = .returned r) ∧ ∃ V', JG w0 w' A P V' F jb root pv av { J with G := jready P J.G p } ts := by
  have j0 := (H.j).cell (k := 0) rfl
  have f2 := (H.f).cell (k := 2) rfl
  have jl := (H.j).lt
  have fl := (H.f).lt
  have hky := skey_any (HG.sx H.hg) p _ rfl
  obtain ⟨⟨kg, kv, kr⟩, hk0⟩ : ∃ x, (skey J.G.s.ps p).getD key0 = x := ⟨_, rfl⟩
  obtain ⟨ks, hks⟩ : ∃ x, (skey J.G.s.ps p).isSome = x := ⟨_, rfl⟩
  have hp : jready P J.G p = if kv = 1 then jlook P J.G p else if kv = 2 then (List.range 8).foldl (jkid P p) J.G else J.G := by
    unfold jready
    rw [show (skey J.G.s.ps p).getD ⟨0, 0, 0⟩ = ⟨kg, kv, kr⟩ from hk0]
  rw [hk0, hks] at hky
  rw [hp]
  have HK := Lib.hid hky
  have HH := Lib.hid H
  clear hky H hp hk0 hks
  by_cases h1 : kv = 1
  · subst h1
    rw [if_pos rfl]
    have hl := fun W (hW : Below w.heap.size w W) => look_j (HH.out.past hW) p
    have HL := Lib.hid hl
    clear hl
    go_enter Tryz.func186, Tryz.ntmps186
    go_wp2_with (first
      | (go_at_call 22; (with_reducible refine HK.out.mono ?_); rintro e W1 ⟨rfl, b1⟩)
      | (go_at_call 208; (with_reducible refine (HL.out _ (b1.trans ((bal W1 _).mono b1.size))).mono ?_); rintro e W3 ⟨⟨r3, rfl⟩, V3, h3⟩; have HH3 := Lib.hid h3; clear h3))
    refine bodyPost_end (results_none rfl _ _ _) rfl ⟨⟨_, rfl⟩, V3, HH3.out⟩
  · have g1 : (kv == 1) = false := beq_eq_false_iff_ne.2 h1
    rw [if_neg h1]
    by_cases h2 : kv = 2
    · subst h2
      rw [if_pos rfl]
      go_enter Tryz.func186, Tryz.ntmps186
      go_wp2_with (first
        | (go_at_call 22; (with_reducible refine HK.out.mono ?_); rintro e W1 ⟨rfl, b1⟩))
      have H2 := HH.out.past (b1.trans ((bal W1 (.cells #[.int .i64 kg, .int .i64 2, .int .i64 kr] 54)).mono b1.size))
      have HH2 := Lib.hid H2
      clear H2 j0 f2 jl fl h1 g1
      go_loopw [6, 7, 8, 30] (fun _ _ _ i wr => ∃ m : Nat, m ≤ 8 ∧ i = .int .i64 m ∧ ∃ V', JG w0 wr A P V' F jb root pv av { J with G := (List.range m).foldl (jkid P p) J.G } ts) (fun _ _ _ i _ => 8 - (intOf i).toNat)
      case atStart => exact ⟨0, by omega, rfl, V, HH2.out⟩
      case round =>
        obtain ⟨m, hm, rfl, V3, H3⟩ := hrel
        by_cases hm8 : m < 8
        · have hmz : (m : Int) < 8 := by omega
          have hnx := fold_range (jkid P p) J.G m
          obtain ⟨Gm, hGm⟩ : ∃ G, (List.range m).foldl (jkid P p) J.G = G := ⟨_, rfl⟩
          rw [hGm] at hnx H3
          obtain ⟨o, ho⟩ : ∃ o, sslot Gm.s.ps p (m : Int) = o := ⟨_, rfl⟩
          have hst := sslot_any (HG.sx H3.hg) p (m : Int) o ho
          have hkd : jkid P p Gm m = if (o.getD slt0).kind = 1 then jlook P Gm (o.getD slt0).dst else Gm := by unfold jkid; rw [ho]
          obtain ⟨⟨xk, xd, ⟨xw, xu, xx⟩⟩, hxo⟩ : ∃ x, o.getD slt0 = x := ⟨_, rfl⟩
          rw [hxo] at hst hkd
          dsimp only at hst hkd
          rw [hkd] at hnx
          obtain ⟨os, hos⟩ : ∃ b, o.isSome = b := ⟨_, rfl⟩
          rw [hos] at hst
          have hlk := fun W (hW : Below wr.heap.size wr W) => look_j (H3.past hW) xd
          have j0 := (H3.j).cell (k := 0) rfl
          have f2 := (H3.f).cell (k := 2) rfl
          have jl := (H3.j).lt
          have fl := (H3.f).lt
          have HSt := Lib.hid hst
          have HLk := Lib.hid hlk
          have HNx := Lib.hid hnx
          have HH3 := Lib.hid H3
          clear hst hlk hnx hkd H3 ho hxo hos hGm
          by_cases hk : xk = 1
          · subst hk
            go_wp2_with (first
              | (go_at_call 23; (with_reducible refine HSt.out.mono ?_); rintro e W7 ⟨rfl, b7⟩; have q7 := b7.trans ((bal W7 (.cells #[.int .i64 1, .int .i64 xd, .bool xw, .bool xu, .bool xx] 64)).mono b7.size))
              | (go_at_call 208; (with_reducible refine (HLk.out _ q7).mono ?_); rintro e W8 ⟨⟨r8, rfl⟩, V8, h8⟩; have HH8 := Lib.hid h8; clear h8))
            go_roundw
            case rel => exact ⟨m + 1, by omega, by simp, V8, by have e := HNx.out; simp only [if_true] at e; rw [e]; exact HH8.out⟩
            case measure => simp [intOf]; omega
          · have f1 : (xk == 1) = false := beq_eq_false_iff_ne.2 hk
            go_wp2_with (first
              | (go_at_call 23; (with_reducible refine HSt.out.mono ?_); rintro e W7 ⟨rfl, b7⟩; have q7 := b7.trans ((bal W7 (.cells #[.int .i64 xk, .int .i64 xd, .bool xw, .bool xu, .bool xx] 64)).mono b7.size)))
            go_roundw
            case rel => exact ⟨m + 1, by omega, by simp, V3, by rw [HNx.out, if_neg hk]; exact HH3.out.past q7⟩
            case measure => simp [intOf]; omega
        · obtain rfl : m = 8 := by omega
          have HH3 := Lib.hid H3
          clear H3
          go_wp2
          refine bodyPost_end (results_none rfl _ _ _) rfl ⟨⟨_, rfl⟩, V3, HH3.out⟩
    · have g2 : (kv == 2) = false := beq_eq_false_iff_ne.2 h2
      rw [if_neg h2]
      go_enter Tryz.func186, Tryz.ntmps186
      go_wp2_with (first
        | (go_at_call 22; (with_reducible refine HK.out.mono ?_); rintro e W1 ⟨rfl, b1⟩))
      refine bodyPost_end (results_none rfl _ _ _) rfl ⟨⟨_, rfl⟩, V, HH.out.past (b1.trans ((bal W1 _).mono b1.size))⟩
theorem ownsRow_kept' {w w' : World} {row : Option Nat} (hg : w.grownBy w' row) : Kept w.heap.size (fun k => row = some k) w w' := ⟨hg.os, hg.tape, hg.output, hg.size, fun k hk hs => hg.block k hk (fun e => hs e.symm)⟩
set_option maxHeartbeats 1000000 in
theorem app_I {o : Oper} {a : Act} {w : World} {K : Act → World → Prop} {Q : Exit → Act → World → Prop} (s x : Operand)
    (ho : o.op = .call { callee := .builtin .append, args := #[s, x], argTypes := #[43, 43] }) (v vx : Value) (hs : a.eval s = v) (hx : a.eval x = vx) (l lx : List Int) (hv : RowI w v l) (hvx : RowI w vx lx) (hl : l.length ≤ 100000000) (hlx : lx.length ≤ 100000000)
    (h : ∀ v' w', RowI w' v' (l ++ lx) → v'.oneCell' = true → Kept w.heap.size (fun k => v.ownBlock = some k) w w' → (v'.ownBlock = v.ownBlock ∨ v'.ownBlock = some w.heap.size) → K (a.put o.dst v') w') : o.wp Tryz.prog a w K Q := by
  obtain ⟨i0, hi, hz0, hz1, hz2⟩ := info_parts info_int
  have key : ∃ v' w', (Builtin.append_ #[43, 43] o.type #[v, vx]).run Tryz.prog w = .ok v' w' ∧ RowI w' v' (l ++ lx) ∧ w.grownBy w' v.ownBlock ∧ (v'.ownBlock = v.ownBlock ∨ v'.ownBlock = some w.heap.size) := by
    rcases hvx.view with ⟨rfl, rfl⟩ | ⟨g, cap, rest, rfl, hb, _, _, _⟩
    · refine ⟨v, w, run_append_owned_none (P := Tryz.prog) (w := w) 0 43 o.type 3 i0 1 Tryz.underlying43 hi v l.length _ hv, ?_, ⟨rfl, rfl, rfl, Nat.le_refl _, fun _ _ _ => rfl⟩, .inl rfl⟩
      rw [List.append_nil]; exact hv
    · obtain ⟨v', w', h1, h2, h3, _, h5⟩ := run_append_own_at (P := Tryz.prog) w 0 43 o.type 3 i0 (.int .i64 0) 1 8 Tryz.underlying43 hi hz0 hz1 hz2 rfl (by decide) v l.length _ hv ⟨g, 0, none⟩ lx.length cap (lx.map valI) (by simp)
        (fun j u hu => by rw [show (⟨g, 0, none⟩ : Addr).add j = ⟨g, j, none⟩ by unfold Addr.add; split <;> simp_all]; exact hb.cell (by rw [List.getElem?_append_left (List.getElem?_eq_some_iff.1 hu).1]; exact hu))
        (fun u hu => by obtain ⟨z, _, rfl⟩ := List.mem_map.1 hu; rfl) (by unfold maxLen; omega) (by omega) (Nat.zero_le _)
      refine ⟨v', w', h1, ?_, h3, h5⟩
      show w'.ownsRow 0 3 1 v' (l ++ lx).length ((l ++ lx).map valI)
      rw [List.length_append, List.map_append]
      exact h2
  obtain ⟨v', w', hr, h2, h3, h5⟩ := key
  unfold Oper.wp execOp
  simp only [ho, resolve, invoke, builtin, Sem.run_bind, Sem.run_pure, Result.andThen_ok, List.map_toArray, List.map_cons, List.map_nil, hs, hx, hr]
  exact h v' w' h2 h2.one (ownsRow_kept' h3) h5
set_option maxRecDepth 100000 in
theorem slot_eql (w : World) (yk yd xk xd : Int) (yw yu yx xw xu xx : Bool) : (binOp .eql 64 (.agg #[.int .i64 yk, .int .i64 yd, .bool yw, .bool yu, .bool yx]) (.agg #[.int .i64 xk, .int .i64 xd, .bool xw, .bool xu, .bool xx])).run Tryz.prog w = .ok (.bool (decide ((⟨yk, yd, ⟨yw, yu, yx⟩⟩ : Slt) = ⟨xk, xd, ⟨xw, xu, xx⟩⟩))) w := by
  have u1 := Tryz.underlying64
  have u2 := Tryz.underlying48
  have u3 := Tryz.underlying3
  have u4 := Tryz.underlying4
  have hp1 : Tryz.prog.stoodInHeld 64 = false := by kernel_rfl
  have hp2 : Tryz.prog.stoodInHeld 48 = false := by kernel_rfl
  have hg1 : Tryz.prog.eqGuardType Tryz.prog.depth 64 = false := by kernel_rfl
  go_simp
  repeat' split
  all_goals simp_all
theorem reach_all {w0 w : World} {A : GAd} {P : Pm} {V : GVl} {G : GS} {ts : List Thing} (H : HG w0 w A P V G ts) (root p : Int) (i : Nat) (hi : i < 8) :
    Calls Tryz.prog 187 #[.pointer (some ⟨A.dp, 0, none⟩), .int .i64 root, .int .i64 p, .int .i64 (i : Int)] w
      fun e w' => ∃ v, e = .returned v ∧ HG w0 w' A P V G (ints v (greach G.s.ps root p (i : Int)) :: ts) := by
  cases ho : sfind G.s.ps ⟨root, 3, 0⟩ with
  | some top => exact reach_yes H root p top i hi ho
  | none =>
    refine (reach_no H root p (i : Int) (.inl ho)).mono ?_
    rintro e w' ⟨rfl, b⟩
    refine ⟨_, rfl, H.add b _ ?_ (fun b h => by simp [ints, Value.ownBlock] at h)⟩
    have e0 : greach G.s.ps root p (i : Int) = [] := by unfold greach; rw [ho]
    rw [e0]
    exact RowI.nil _
theorem row_form {w : World} {v : Value} {l : List Int} (h : RowI w v l) : ∃ a n c, v = .slice a n c := by
  rcases h.view with ⟨rfl, rfl⟩ | ⟨g, cap, rest, rfl, _⟩
  · exact ⟨_, _, _, rfl⟩
  · exact ⟨_, _, _, rfl⟩
theorem greach_len (ps : List Pg) (root p i : Int) : (greach ps root p i).length ≤ 200 := by
  unfold greach
  split
  · simp
  · split
    · rename_i top _ _
      rw [List.length_append]
      have h1 := flat_len (reachM ps p i.toNat) 16 (reachM_len ps p i.toNat) (kids ps top)
      have h2 : (kids ps top).length ≤ 8 := kidsN_len ps top 8
      have h3 : (if p = top then span (i.toNat * 64) 64 else []).length ≤ 64 := by
        split
        · rw [span_len]; omega
        · simp
      omega
    · simp
set_option maxRecDepth 100000 in
set_option maxHeartbeats 4000000 in
theorem lay_j {w0 w : World} {A : GAd} {P : Pm} {V : GVl} {F : FA} {jb : Nat} {root : Int} {pv av : Value} {J : JS} {ts : List Thing} (H : JG w0 w A P V F jb root pv av J ts) (p : Int) (i : Nat) (hi : i < 8) (xk xd : Int) (xw xu xx : Bool) (g : Nat) (lb : Array Value) (put : GS → GS) (hl : J.anew.length ≤ 90000)
    (eg : ∀ args w, (callFunc g args).run Tryz.prog w = .ok (.enter g args) w)
    (hput : ∀ W V' G', JG w0 W A P V' F jb root pv av { J with G := G' } ts → Calls Tryz.prog g lb W fun e W' => (∃ b, e = .returned b) ∧ ∃ V'', JG w0 W' A P V'' F jb root pv av { J with G := put G' } ts) :
    Calls Tryz.prog 132 #[.pointer (some ⟨jb, 0, none⟩), .int .i64 p, .int .i64 (i : Int), .agg #[.int .i64 xk, .int .i64 xd, .bool xw, .bool xu, .bool xx], .func (.func g) #[] lb] w
      fun e w' => (∃ r, e = .returned r) ∧ ∃ V' av', JG w0 w' A P V' F jb root pv av' (jlay P J root p (i : Int) ⟨xk, xd, ⟨xw, xu, xx⟩⟩ put) ts := by
  have b0 := bal w (.cells #[.int .i64 xk, .int .i64 xd, .bool xw, .bool xu, .bool xx] 64)
  have hz := Blk.new w 64 [.int .i64 xk, .int .i64 xd, .bool xw, .bool xu, .bool xx]
  obtain ⟨zb, hzb⟩ : ∃ x, w.heap.size = x := ⟨_, rfl⟩
  obtain ⟨wz, hwz⟩ : ∃ W', w.alloc (.cells #[.int .i64 xk, .int .i64 xd, .bool xw, .bool xu, .bool xx] 64) = W' := ⟨_, rfl⟩
  rw [show (w.alloc (.cells ([.int .i64 xk, .int .i64 xd, .bool xw, .bool xu, .bool xx] : List Value).toArray 64)) = wz from hwz, hzb] at hz
  rw [hwz] at b0
  have H1 := H.past b0
  obtain ⟨o, ho⟩ : ∃ o, sslot J.G.s.ps p (i : Int) = o := ⟨_, rfl⟩
  have hst := sslot_any (HG.sx H1.hg) p (i : Int) o ho
  have hlay : jlay P J root p (i : Int) ⟨xk, xd, ⟨xw, xu, xx⟩⟩ put = if o.getD slt0 = ⟨xk, xd, ⟨xw, xu, xx⟩⟩ then J else
      { J with G := put (gzap (if xk = 1 then jready P J.G xd else J.G) p (i : Int)).2, anew := J.anew ++ greach (put (gzap (if xk = 1 then jready P J.G xd else J.G) p (i : Int)).2).s.ps root p (i : Int) } := by
    unfold jlay; rw [ho]
  obtain ⟨R, hR⟩ : ∃ R, jlay P J root p (i : Int) ⟨xk, xd, ⟨xw, xu, xx⟩⟩ put = R := ⟨_, rfl⟩
  rw [hR] at hlay ⊢
  obtain ⟨⟨yk, yd, ⟨yw, yu, yx⟩⟩, hxo⟩ : ∃ x, o.getD slt0 = x := ⟨_, rfl⟩
  rw [hxo] at hst hlay
  dsimp only at hst
  have HLay := Lib.hid hlay
  obtain ⟨os, hos⟩ : ∃ b, o.isSome = b := ⟨_, rfl⟩
  rw [hos] at hst
  have j0 := (H1.j).cell (k := 0) rfl
  have f2 := (H1.f).cell (k := 2) rfl
  have jl := (H1.j).lt
  have fl := (H1.f).lt
  have hre := fun W (hW : Below wz.heap.size wz W) => ready_j (H1.past hW) xd
  have HSt := Lib.hid hst
  have HRe := Lib.hid hre
  have HH1 := Lib.hid H1
  have HB0 := Lib.hid b0
  have HZ := Lib.hid hz
  have HW := Lib.hid hwz
  have HZB := Lib.hid hzb
  have HPut := Lib.hid hput
  clear hst hre H1 H b0 hz hwz hzb hput hlay ho hxo hos hR
  go_enter Tryz.func132, Tryz.ntmps132
  go_upto_region 1 with (fail)
  rw [HW.out, HZB.out]
  go_upto_region 2 with (first
    | (go_at_call 23; (with_reducible refine HSt.out.mono ?_); rintro e W1 ⟨rfl, b1⟩))
  have q1 := b1.trans ((bal W1 (.cells #[.int .i64 yk, .int .i64 yd, .bool yw, .bool yu, .bool yx] 64)).mono b1.size)
  have K1 := Blk.new W1 64 [.int .i64 yk, .int .i64 yd, .bool yw, .bool yu, .bool yx]
  have hle1 : wz.heap.size ≤ W1.heap.size := b1.size
  obtain ⟨kb, hkb⟩ : ∃ b, W1.heap.size = b := ⟨_, rfl⟩
  obtain ⟨W2, hW2⟩ : ∃ W', W1.alloc (.cells #[.int .i64 yk, .int .i64 yd, .bool yw, .bool yu, .bool yx] 64) = W' := ⟨_, rfl⟩
  rw [show (W1.alloc (.cells ([.int .i64 yk, .int .i64 yd, .bool yw, .bool yu, .bool yx] : List Value).toArray 64)) = W2 from hW2, hkb] at K1
  rw [hW2] at q1
  rw [hkb] at hle1
  rw [hW2, hkb]
  clear hW2 hkb b1
  have Z2 := HZ.out.past q1
  clear j0 f2 jl fl
  have heq := fun W => slot_eql W yk yd xk xd yw yu yx xw xu xx
  obtain ⟨bq, hbq⟩ : ∃ b, decide ((⟨yk, yd, ⟨yw, yu, yx⟩⟩ : Slt) = ⟨xk, xd, ⟨xw, xu, xx⟩⟩) = b := ⟨_, rfl⟩
  rw [hbq] at heq
  have HBq := Lib.hid hbq
  clear hbq
  have z0 := Z2.cell (k := 0) rfl
  have z1 := Z2.cell (k := 1) rfl
  have z2 := Z2.cell (k := 2) rfl
  have z3 := Z2.cell (k := 3) rfl
  have z4 := Z2.cell (k := 4) rfl
  have zl := Z2.lt
  have k0 := K1.cell (k := 0) rfl
  have k1 := K1.cell (k := 1) rfl
  have k2 := K1.cell (k := 2) rfl
  have k3 := K1.cell (k := 3) rfl
  have k4 := K1.cell (k := 4) rfl
  have kl := K1.lt
  have HQ1 := Lib.hid q1
  have HZ2 := Lib.hid Z2
  clear q1 K1 Z2 hle1
  by_cases he : (⟨yk, yd, ⟨yw, yu, yx⟩⟩ : Slt) = ⟨xk, xd, ⟨xw, xu, xx⟩⟩
  · obtain rfl : R = J := by rw [HLay.out, if_pos he]
    clear HLay
    obtain rfl : bq = true := by rw [← HBq.out]; exact decide_eq_true he
    clear he HBq
    go_wp2_with fail
    (try simp only [Exit.inBlock, Exit.then])
    refine bodyPost_ret (results_none rfl _ _ _) rfl ⟨⟨_, rfl⟩, V, av, HH1.out.past HQ1.out⟩
  · have hR := HLay.out
    rw [if_neg he] at hR
    clear HLay
    obtain rfl : bq = false := by rw [← HBq.out]; exact decide_eq_false he
    clear he HBq
    obtain ⟨G1, hG1⟩ : ∃ G1, (if xk = 1 then jready P J.G xd else J.G) = G1 := ⟨_, rfl⟩
    rw [hG1] at hR
    subst hR
    have HG1 := Lib.hid hG1
    clear hG1
    by_cases hk1 : xk = 1
    · subst hk1
      have hG1 := HG1.out
      rw [if_pos rfl] at hG1
      subst hG1
      clear HG1
      go_wp2_with (first
        | (go_at_call 186; (with_reducible refine (HRe.out _ HQ1.out).mono ?_); rintro e WX ⟨⟨r3, rfl⟩, VX, hX⟩; clear z0 k0 z1 k1 z2 k2 z3 k3 z4 k4 zl kl HRe HH1 HB0 HZ HSt HQ1 HZ2; have aj0 := (show Blk WX jb 161 (jcells F root pv av) from Hold.at hX 5 rfl).cell (k := 0) rfl; have af3 := (show Blk WX F.fl 156 (fcells A F.gp) from Hold.at hX 8 rfl).cell (k := 3) rfl; have afl := (show Blk WX F.fl 156 (fcells A F.gp) from Hold.at hX 8 rfl).lt; have ajl := (show Blk WX jb 161 (jcells F root pv av) from Hold.at hX 5 rfl).lt; have hzp := zap_h hX.hg p (i : Int); try dsimp only at hzp; have HZp := Lib.hid hzp; clear hX hzp)
        | (go_at_call 111; (with_reducible refine HZp.out.mono ?_); rintro e W4 ⟨rfl, V4, h4⟩; have hp4 := HPut.out W4 V4 (gzap (jready P J.G xd) p (i : Int)).2 h4; have HP4 := Lib.hid hp4; clear h4 hp4)
        | ((with_reducible refine Calls.mono HP4.out ?_); rintro e W5 ⟨⟨r5, rfl⟩, V5, h5⟩; have HH5 := Lib.hid h5; clear h5))
      obtain ⟨G3, hG3⟩ : ∃ G3, put (gzap (jready P J.G xd) p (i : Int)).2 = G3 := ⟨_, rfl⟩
      rw [hG3] at HH5
      have HG3 := Lib.hid hG3
      clear hG3 HP4 HZp HPut aj0 af3 ajl afl
      have h5 := HH5.out
      have bj0 := (show Blk W5 jb 161 (jcells F root pv av) from Hold.at h5 5 rfl).cell (k := 0) rfl
      have bj1 := (show Blk W5 jb 161 (jcells F root pv av) from Hold.at h5 5 rfl).cell (k := 1) rfl
      have bj3 := (show Blk W5 jb 161 (jcells F root pv av) from Hold.at h5 5 rfl).cell (k := 3) rfl
      have bf3 := (show Blk W5 F.fl 156 (fcells A F.gp) from Hold.at h5 8 rfl).cell (k := 3) rfl
      have bfl := (show Blk W5 F.fl 156 (fcells A F.gp) from Hold.at h5 8 rfl).lt
      have bjl := (show Blk W5 jb 161 (jcells F root pv av) from Hold.at h5 5 rfl).lt
      have hre := reach_all (h5.past (Below.refl _ _).drew).hg root p i hi
      dsimp only at hre
      have hgl := greach_len G3.s.ps root p (i : Int)
      obtain ⟨L, hL⟩ : ∃ L, greach G3.s.ps root p (i : Int) = L := ⟨_, rfl⟩
      rw [hL] at hre hgl
      have HL3 := Lib.hid hL
      have HRe := Lib.hid hre
      clear hre h5 hL
      refine wp_region_last (fun w' => w'.cell? ⟨jb, 0, none⟩ = some (.pointer (some ⟨F.fl, 0, none⟩)) ∧ w'.cell? ⟨jb, 1, none⟩ = some (.int .i64 root) ∧ w'.cell? ⟨jb, 3, none⟩ = some (av) ∧ w'.cell? ⟨F.fl, 3, none⟩ = some (.pointer (some ⟨A.dp, 0, none⟩))) 22 (by kernel_rfl) (by (try dsimp only); go_keep) (fun hHeld => ?_)
      refine' wpAnyT_take (i := 0) (v := _) rfl (by kernel_rfl) (by kernel_rfl) (by kernel_rfl) (by kernel_rfl) (by kernel_rfl) (fun _ _ _ h => h) (Or.inl ⟨by with_unfolding_all rfl, ?_⟩) (by assumption) ?_
      rotate_left
      focus (intro w hSw; (try dsimp only at hSw); go_simp; try (with_reducible rfl))
      try simp only [List.getElem_toArray, List.getElem_cons_zero, Act.put, List.setIfInBounds_toArray, List.set_cons_zero, List.set_cons_succ]
      refine' wpAnyT_take (i := 1) (v := _) rfl (by kernel_rfl) (by kernel_rfl) (by kernel_rfl) (by kernel_rfl) (by kernel_rfl) (fun _ _ _ h => h) (Or.inl ⟨by with_unfolding_all rfl, ?_⟩) (by assumption) ?_
      rotate_left
      focus (intro w hSw; (try dsimp only at hSw); go_simp; try (with_reducible rfl))
      try simp only [List.getElem_toArray, List.getElem_cons_zero, List.getElem_cons_succ, Act.put, List.setIfInBounds_toArray, List.set_cons_zero, List.set_cons_succ]
      refine' wpAnyT_take (i := 2) (v := _) rfl (by kernel_rfl) (by kernel_rfl) (by kernel_rfl) (by kernel_rfl) (by kernel_rfl) (fun _ _ _ h => h) (Or.inl ⟨by with_unfolding_all rfl, ?_⟩) (by assumption) ?_
      rotate_left
      focus (intro w hSw; (try dsimp only at hSw); go_simp; try (with_reducible rfl))
      try simp only [List.getElem_toArray, List.getElem_cons_zero, List.getElem_cons_succ, Act.put, List.setIfInBounds_toArray, List.set_cons_zero, List.set_cons_succ]
      refine' wpAnyT_take (i := 3) (v := _) rfl (by kernel_rfl) (by kernel_rfl) (by kernel_rfl) (by kernel_rfl) (by kernel_rfl) (fun _ _ _ h => h) (Or.inl ⟨by with_unfolding_all rfl, ?_⟩) (by assumption) ?_
      rotate_left
      focus (intro w hSw; (try dsimp only at hSw); go_simp; try (with_reducible rfl))
      try simp only [List.getElem_toArray, List.getElem_cons_zero, List.getElem_cons_succ, Act.put, List.setIfInBounds_toArray, List.set_cons_zero, List.set_cons_succ]
      refine' wpAnyT_take (i := 4) (v := _) rfl (by kernel_rfl) (by kernel_rfl) (by kernel_rfl) (by kernel_rfl) (by kernel_rfl) (fun _ _ _ h => h) (Or.inl ⟨by with_unfolding_all rfl, ?_⟩) (by assumption) ?_
      rotate_left
      focus (intro w hSw; (try dsimp only at hSw); go_simp; try (with_reducible rfl))
      try simp only [List.getElem_toArray, List.getElem_cons_zero, List.getElem_cons_succ, Act.put, List.setIfInBounds_toArray, List.set_cons_zero, List.set_cons_succ]
      refine' wpAnyT_take (i := 5) (v := _) rfl (by kernel_rfl) (by kernel_rfl) (by kernel_rfl) (by kernel_rfl) (by kernel_rfl) (fun _ _ _ h => h) (Or.inl ⟨by with_unfolding_all rfl, ?_⟩) (by assumption) ?_
      rotate_left
      focus (intro w hSw; (try dsimp only at hSw); go_simp; try (with_reducible rfl))
      try simp only [List.getElem_toArray, List.getElem_cons_zero, List.getElem_cons_succ, Act.put, List.setIfInBounds_toArray, List.set_cons_zero, List.set_cons_succ]
      refine' wpAnyT_take (i := 6) (v := _) rfl (by kernel_rfl) (by kernel_rfl) (by kernel_rfl) (by kernel_rfl) (by kernel_rfl) (fun _ _ _ h => h) (Or.inl ⟨by with_unfolding_all rfl, ?_⟩) (by assumption) ?_
      rotate_left
      focus (intro w hSw; (try dsimp only at hSw); go_simp; try (with_reducible rfl))
      try simp only [List.getElem_toArray, List.getElem_cons_zero, List.getElem_cons_succ, Act.put, List.setIfInBounds_toArray, List.set_cons_zero, List.set_cons_succ]
      refine' wpAnyT_take (i := 7) (v := _) rfl (by kernel_rfl) (by kernel_rfl) (by kernel_rfl) (by kernel_rfl) (by kernel_rfl) (fun _ _ _ h => h) (Or.inl ⟨by with_unfolding_all rfl, ?_⟩) (by assumption) ?_
      rotate_left
      focus (intro w hSw; (try dsimp only at hSw); go_simp; try (with_reducible rfl))
      try simp only [List.getElem_toArray, List.getElem_cons_zero, List.getElem_cons_succ, Act.put, List.setIfInBounds_toArray, List.set_cons_zero, List.set_cons_succ]
      refine' wpAnyT_take (i := 8) (v := _) rfl (by kernel_rfl) (by kernel_rfl) (by kernel_rfl) (by kernel_rfl) (by kernel_rfl) (fun _ _ _ h => h) (Or.inl ⟨by with_unfolding_all rfl, ?_⟩) (by assumption) ?_
      rotate_left
      focus (intro w hSw; (try dsimp only at hSw); go_simp; try (with_reducible rfl))
      try simp only [List.getElem_toArray, List.getElem_cons_zero, List.getElem_cons_succ, Act.put, List.setIfInBounds_toArray, List.set_cons_zero, List.set_cons_succ]
      refine' wpAnyT_take (i := 9) (v := _) rfl (by kernel_rfl) (by kernel_rfl) (by kernel_rfl) (by kernel_rfl) (by kernel_rfl) (fun _ _ _ h => h) (Or.inl ⟨by with_unfolding_all rfl, ?_⟩) (by assumption) ?_
      rotate_left
      focus (intro w hSw; (try dsimp only at hSw); go_simp; try (with_reducible rfl))
      try simp only [List.getElem_toArray, List.getElem_cons_zero, List.getElem_cons_succ, Act.put, List.setIfInBounds_toArray, List.set_cons_zero, List.set_cons_succ]
      refine' wpAnyT_take (i := 10) (v := _) rfl (by kernel_rfl) (by kernel_rfl) (by kernel_rfl) (by kernel_rfl) (by kernel_rfl) (fun _ _ _ h => h) (Or.inl ⟨by with_unfolding_all rfl, ?_⟩) (by assumption) ?_
      rotate_left
      focus (intro w hSw; (try dsimp only at hSw); go_simp; try (with_reducible rfl))
      try simp only [List.getElem_toArray, List.getElem_cons_zero, List.getElem_cons_succ, Act.put, List.setIfInBounds_toArray, List.set_cons_zero, List.set_cons_succ]
      refine' wpAnyT_take (i := 11) (v := _) rfl (by kernel_rfl) (by kernel_rfl) (by kernel_rfl) (by kernel_rfl) (by kernel_rfl) (fun _ _ _ h => h) (Or.inl ⟨by with_unfolding_all rfl, ?_⟩) (by assumption) ?_
      rotate_left
      focus (intro w hSw; (try dsimp only at hSw); go_simp; try (with_reducible rfl))
      try simp only [List.getElem_toArray, List.getElem_cons_zero, List.getElem_cons_succ, Act.put, List.setIfInBounds_toArray, List.set_cons_zero, List.set_cons_succ]
      refine' wpAnyT_take (i := 12) (v := _) rfl (by kernel_rfl) (by kernel_rfl) (by kernel_rfl) (by kernel_rfl) (by kernel_rfl) (fun _ _ _ h => h) (Or.inl ⟨by with_unfolding_all rfl, ?_⟩) (by assumption) ?_
      rotate_left
      focus (intro w hSw; (try dsimp only at hSw); go_simp; try (with_reducible rfl))
      try simp only [List.getElem_toArray, List.getElem_cons_zero, List.getElem_cons_succ, Act.put, List.setIfInBounds_toArray, List.set_cons_zero, List.set_cons_succ]
      refine' wpAnyT_take (i := 13) (v := _) rfl (by kernel_rfl) (by kernel_rfl) (by kernel_rfl) (by kernel_rfl) (by kernel_rfl) (fun _ _ _ h => h) (Or.inl ⟨by with_unfolding_all rfl, ?_⟩) (by assumption) ?_
      rotate_left
      focus (intro w hSw; (try dsimp only at hSw); go_simp; try (with_reducible rfl))
      try simp only [List.getElem_toArray, List.getElem_cons_zero, List.getElem_cons_succ, Act.put, List.setIfInBounds_toArray, List.set_cons_zero, List.set_cons_succ]
      refine' wpAnyT_take (i := 14) (v := _) rfl (by kernel_rfl) (by kernel_rfl) (by kernel_rfl) (by kernel_rfl) (by kernel_rfl) (fun _ _ _ h => h) (Or.inl ⟨by with_unfolding_all rfl, ?_⟩) (by assumption) ?_
      rotate_left
      focus (intro w hSw; (try dsimp only at hSw); go_simp; try (with_reducible rfl))
      try simp only [List.getElem_toArray, List.getElem_cons_zero, List.getElem_cons_succ, Act.put, List.setIfInBounds_toArray, List.set_cons_zero, List.set_cons_succ]
      refine' wpAnyT_take (i := 15) (v := _) rfl (by kernel_rfl) (by kernel_rfl) (by kernel_rfl) (by kernel_rfl) (by kernel_rfl) (fun _ _ _ h => h) (Or.inl ⟨by with_unfolding_all rfl, ?_⟩) (by assumption) ?_
      rotate_left
      focus (intro w hSw; (try dsimp only at hSw); go_simp; try (with_reducible rfl))
      try simp only [List.getElem_toArray, List.getElem_cons_zero, List.getElem_cons_succ, Act.put, List.setIfInBounds_toArray, List.set_cons_zero, List.set_cons_succ]
      refine' wpAnyT_take (i := 16) (v := _) rfl (by kernel_rfl) (by kernel_rfl) (by kernel_rfl) (by kernel_rfl) (by kernel_rfl) (fun _ _ _ h => h) (Or.inl ⟨by with_unfolding_all rfl, ?_⟩) (by assumption) ?_
      rotate_left
      focus (intro w hSw; (try dsimp only at hSw); go_simp; try (with_reducible rfl))
      try simp only [List.getElem_toArray, List.getElem_cons_zero, List.getElem_cons_succ, Act.put, List.setIfInBounds_toArray, List.set_cons_zero, List.set_cons_succ]
      refine' wpAnyT_take (i := 17) (v := _) rfl (by kernel_rfl) (by kernel_rfl) (by kernel_rfl) (by kernel_rfl) (by kernel_rfl) (fun _ _ _ h => h) (Or.inl ⟨by with_unfolding_all rfl, ?_⟩) (by assumption) ?_
      rotate_left
      focus (intro w hSw; (try dsimp only at hSw); go_simp; try (with_reducible rfl))
      try simp only [List.getElem_toArray, List.getElem_cons_zero, List.getElem_cons_succ, Act.put, List.setIfInBounds_toArray, List.set_cons_zero, List.set_cons_succ]
      refine wpAnyL_one (i := 18) (by kernel_rfl) rfl (fun K hK => ?_)
      rw [if_pos (by with_unfolding_all rfl)]
      go_simp
      (go_at_call 187; (with_reducible refine HRe.out.mono ?_); rintro e W6 ⟨v6, rfl, h6⟩; have cj0 := (show Blk W6 jb 161 (jcells F root pv av) from Hold.at h6 6 rfl).cell (k := 0) rfl; have cj1 := (show Blk W6 jb 161 (jcells F root pv av) from Hold.at h6 6 rfl).cell (k := 1) rfl; have cj3 := (show Blk W6 jb 161 (jcells F root pv av) from Hold.at h6 6 rfl).cell (k := 3) rfl; have cf3 := (show Blk W6 F.fl 156 (fcells A F.gp) from Hold.at h6 9 rfl).cell (k := 3) rfl; have cfl := (show Blk W6 F.fl 156 (fcells A F.gp) from Hold.at h6 9 rfl).lt; have cjl := (show Blk W6 jb 161 (jcells F root pv av) from Hold.at h6 6 rfl).lt; have RA : RowI W6 av J.anew := Hold.at h6 8 rfl; have RV : RowI W6 v6 L := h6.top; have HH6 := Lib.hid h6; clear h6)
      refine hK.out _ _ (fun _ => (by (try dsimp only); go_keep)) (fun hHeld => ?_)
      replace hHeld := hHeld (by decide)
      clear hK K
      try simp only [List.getElem_toArray, List.getElem_cons_zero, List.getElem_cons_succ, Act.put, List.setIfInBounds_toArray, List.set_cons_zero, List.set_cons_succ]
      refine wpAnyL_one (i := 19) (by kernel_rfl) rfl (fun K hK => ?_)
      rw [if_pos (by with_unfolding_all rfl)]
      refine app_I (.tmp 51) (.tmp 65) rfl av v6 (by simp [Act.eval]) (by simp [Act.eval]) J.anew L RA RV (by omega) (by omega) ?_; intro v7 w7 hr7 ho7 hk7 hb7; have h7 : HG w0 w7 A P V5 G3 (ints v6 L :: box jb 161 (jcells F root pv av) :: ints pv J.pinned :: ints v7 (J.anew ++ L) :: fths F A P ts) := Hold.step HH6.out 8 (ints v7 (J.anew ++ L)) rfl hr7 hk7 (fun b hb => hb7.elim (fun h => .inl (by have hb' : v7.ownBlock = some b := hb; rw [h] at hb'; exact hb')) (fun h => .inr (by have hb' : v7.ownBlock = some b := hb; rw [h] at hb'; exact Nat.le_of_eq (Option.some.inj hb')))); clear hk7 hb7 RA; obtain ⟨a7, n7, c7, rfl⟩ := row_form hr7; have dj0 := (show Blk w7 jb 161 (jcells F root pv av) from Hold.at h7 6 rfl).cell (k := 0) rfl; have dj1 := (show Blk w7 jb 161 (jcells F root pv av) from Hold.at h7 6 rfl).cell (k := 1) rfl; have dj3 := (show Blk w7 jb 161 (jcells F root pv av) from Hold.at h7 6 rfl).cell (k := 3) rfl; have df3 := (show Blk w7 F.fl 156 (fcells A F.gp) from Hold.at h7 9 rfl).cell (k := 3) rfl; have dfl := (show Blk w7 F.fl 156 (fcells A F.gp) from Hold.at h7 9 rfl).lt; have djl := (show Blk w7 jb 161 (jcells F root pv av) from Hold.at h7 6 rfl).lt; have djf := fun k => (show Blk w7 jb 161 (jcells F root pv av) from Hold.at h7 6 rfl).free k; have HH7 := Lib.hid h7; clear h7
      refine hK.out _ _ (fun _ => (by (try dsimp only); go_keep)) (fun hHeld => ?_)
      replace hHeld := hHeld (by decide)
      clear hK K
      try simp only [List.getElem_toArray, List.getElem_cons_zero, List.getElem_cons_succ, Act.put, List.setIfInBounds_toArray, List.set_cons_zero, List.set_cons_succ]
      refine' wpAnyT_take (i := 20) (v := _) rfl (by kernel_rfl) (by kernel_rfl) (by kernel_rfl) (by kernel_rfl) (by kernel_rfl) (fun _ _ _ h => h) (Or.inl ⟨by with_unfolding_all rfl, ?_⟩) (by assumption) ?_
      rotate_left
      focus (intro w hSw; (try dsimp only at hSw); go_simp; try (with_reducible rfl))
      try simp only [List.getElem_toArray, List.getElem_cons_zero, List.getElem_cons_succ, Act.put, List.setIfInBounds_toArray, List.set_cons_zero, List.set_cons_succ]
      refine' wpAnyT_take (i := 21) (v := _) rfl (by kernel_rfl) (by kernel_rfl) (by kernel_rfl) (by kernel_rfl) (by kernel_rfl) (fun _ _ _ h => h) (Or.inl ⟨by with_unfolding_all rfl, ?_⟩) (by assumption) ?_
      rotate_left
      focus (intro w hSw; (try dsimp only at hSw); go_simp; try (with_reducible rfl))
      try simp only [List.getElem_toArray, List.getElem_cons_zero, List.getElem_cons_succ, Act.put, List.setIfInBounds_toArray, List.set_cons_zero, List.set_cons_succ]
      refine wpAnyL_one (i := 22) (by kernel_rfl) rfl (fun K hK => ?_)
      rw [if_pos (by with_unfolding_all rfl)]
      go_simp
      refine hK.out _ _ (fun h => absurd rfl h) (fun _ => ?_)
      clear hK K
      refine wpAnyL_done (by kernel_rfl) ?_
      go_wp2_with fail
      have h8 : HG w0 _ A P V5 G3 (ints v6 L :: jths F jb root pv (.slice a7 n7 c7) J.pinned (J.anew ++ L) (fths F A P ts)) := Hold.put HH7.out 6 (b := jb) rfl 3 (.slice a7 n7 c7)
      exact bodyPost_end (results_none rfl _ _ _) rfl ⟨⟨_, rfl⟩, V5, _, by rw [HG3.out, HL3.out]; exact h8.tail⟩
    · have g1 : (xk == 1) = false := beq_eq_false_iff_ne.2 hk1
      have hG1 := HG1.out
      rw [if_neg hk1] at hG1
      subst hG1
      clear HG1
      have HX := Lib.hid (HH1.out.past HQ1.out)
      clear HRe HB0 HZ HSt HZ2
      have hX := HX.out
      have aj0 := (show Blk W2 jb 161 (jcells F root pv av) from Hold.at hX 5 rfl).cell (k := 0) rfl
      have af3 := (show Blk W2 F.fl 156 (fcells A F.gp) from Hold.at hX 8 rfl).cell (k := 3) rfl
      have afl := (show Blk W2 F.fl 156 (fcells A F.gp) from Hold.at hX 8 rfl).lt
      have ajl := (show Blk W2 jb 161 (jcells F root pv av) from Hold.at hX 5 rfl).lt
      have hzp := zap_h hX.hg p (i : Int)
      try dsimp only at hzp
      have HZp := Lib.hid hzp
      clear hX hzp
      go_wp2_with (first
        | (go_at_call 111; (with_reducible refine HZp.out.mono ?_); rintro e W4 ⟨rfl, V4, h4⟩; have hp4 := HPut.out W4 V4 (gzap J.G p (i : Int)).2 h4; have HP4 := Lib.hid hp4; clear h4 hp4)
        | ((with_reducible refine Calls.mono HP4.out ?_); rintro e W5 ⟨⟨r5, rfl⟩, V5, h5⟩; have HH5 := Lib.hid h5; clear h5))
      clear z0 k0 z1 k1 z2 k2 z3 k3 z4 k4 zl kl HQ1 HH1 HX
      obtain ⟨G3, hG3⟩ : ∃ G3, put (gzap J.G p (i : Int)).2 = G3 := ⟨_, rfl⟩
      rw [hG3] at HH5
      have HG3 := Lib.hid hG3
      clear hG3 HP4 HZp HPut aj0 af3 ajl afl
      have h5 := HH5.out
      have bj0 := (show Blk W5 jb 161 (jcells F root pv av) from Hold.at h5 5 rfl).cell (k := 0) rfl
      have bj1 := (show Blk W5 jb 161 (jcells F root pv av) from Hold.at h5 5 rfl).cell (k := 1) rfl
      have bj3 := (show Blk W5 jb 161 (jcells F root pv av) from Hold.at h5 5 rfl).cell (k := 3) rfl
      have bf3 := (show Blk W5 F.fl 156 (fcells A F.gp) from Hold.at h5 8 rfl).cell (k := 3) rfl
      have bfl := (show Blk W5 F.fl 156 (fcells A F.gp) from Hold.at h5 8 rfl).lt
      have bjl := (show Blk W5 jb 161 (jcells F root pv av) from Hold.at h5 5 rfl).lt
      have hre := reach_all (h5.past (Below.refl _ _).drew).hg root p i hi
      dsimp only at hre
      have hgl := greach_len G3.s.ps root p (i : Int)
      obtain ⟨L, hL⟩ : ∃ L, greach G3.s.ps root p (i : Int) = L := ⟨_, rfl⟩
      rw [hL] at hre hgl
      have HL3 := Lib.hid hL
      have HRe := Lib.hid hre
      clear hre h5 hL
      refine wp_region_last (fun w' => w'.cell? ⟨jb, 0, none⟩ = some (.pointer (some ⟨F.fl, 0, none⟩)) ∧ w'.cell? ⟨jb, 1, none⟩ = some (.int .i64 root) ∧ w'.cell? ⟨jb, 3, none⟩ = some (av) ∧ w'.cell? ⟨F.fl, 3, none⟩ = some (.pointer (some ⟨A.dp, 0, none⟩))) 22 (by kernel_rfl) (by (try dsimp only); go_keep) (fun hHeld => ?_)
      refine' wpAnyT_take (i := 0) (v := _) rfl (by kernel_rfl) (by kernel_rfl) (by kernel_rfl) (by kernel_rfl) (by kernel_rfl) (fun _ _ _ h => h) (Or.inl ⟨by with_unfolding_all rfl, ?_⟩) (by assumption) ?_
      rotate_left
      focus (intro w hSw; (try dsimp only at hSw); go_simp; try (with_reducible rfl))
      try simp only [List.getElem_toArray, List.getElem_cons_zero, Act.put, List.setIfInBounds_toArray, List.set_cons_zero, List.set_cons_succ]
      refine' wpAnyT_take (i := 1) (v := _) rfl (by kernel_rfl) (by kernel_rfl) (by kernel_rfl) (by kernel_rfl) (by kernel_rfl) (fun _ _ _ h => h) (Or.inl ⟨by with_unfolding_all rfl, ?_⟩) (by assumption) ?_
      rotate_left
      focus (intro w hSw; (try dsimp only at hSw); go_simp; try (with_reducible rfl))
      try simp only [List.getElem_toArray, List.getElem_cons_zero, List.getElem_cons_succ, Act.put, List.setIfInBounds_toArray, List.set_cons_zero, List.set_cons_succ]
      refine' wpAnyT_take (i := 2) (v := _) rfl (by kernel_rfl) (by kernel_rfl) (by kernel_rfl) (by kernel_rfl) (by kernel_rfl) (fun _ _ _ h => h) (Or.inl ⟨by with_unfolding_all rfl, ?_⟩) (by assumption) ?_
      rotate_left
      focus (intro w hSw; (try dsimp only at hSw); go_simp; try (with_reducible rfl))
      try simp only [List.getElem_toArray, List.getElem_cons_zero, List.getElem_cons_succ, Act.put, List.setIfInBounds_toArray, List.set_cons_zero, List.set_cons_succ]
      refine' wpAnyT_take (i := 3) (v := _) rfl (by kernel_rfl) (by kernel_rfl) (by kernel_rfl) (by kernel_rfl) (by kernel_rfl) (fun _ _ _ h => h) (Or.inl ⟨by with_unfolding_all rfl, ?_⟩) (by assumption) ?_
      rotate_left
      focus (intro w hSw; (try dsimp only at hSw); go_simp; try (with_reducible rfl))
      try simp only [List.getElem_toArray, List.getElem_cons_zero, List.getElem_cons_succ, Act.put, List.setIfInBounds_toArray, List.set_cons_zero, List.set_cons_succ]
      refine' wpAnyT_take (i := 4) (v := _) rfl (by kernel_rfl) (by kernel_rfl) (by kernel_rfl) (by kernel_rfl) (by kernel_rfl) (fun _ _ _ h => h) (Or.inl ⟨by with_unfolding_all rfl, ?_⟩) (by assumption) ?_
      rotate_left
      focus (intro w hSw; (try dsimp only at hSw); go_simp; try (with_reducible rfl))
      try simp only [List.getElem_toArray, List.getElem_cons_zero, List.getElem_cons_succ, Act.put, List.setIfInBounds_toArray, List.set_cons_zero, List.set_cons_succ]
      refine' wpAnyT_take (i := 5) (v := _) rfl (by kernel_rfl) (by kernel_rfl) (by kernel_rfl) (by kernel_rfl) (by kernel_rfl) (fun _ _ _ h => h) (Or.inl ⟨by with_unfolding_all rfl, ?_⟩) (by assumption) ?_
      rotate_left
      focus (intro w hSw; (try dsimp only at hSw); go_simp; try (with_reducible rfl))
      try simp only [List.getElem_toArray, List.getElem_cons_zero, List.getElem_cons_succ, Act.put, List.setIfInBounds_toArray, List.set_cons_zero, List.set_cons_succ]
      refine' wpAnyT_take (i := 6) (v := _) rfl (by kernel_rfl) (by kernel_rfl) (by kernel_rfl) (by kernel_rfl) (by kernel_rfl) (fun _ _ _ h => h) (Or.inl ⟨by with_unfolding_all rfl, ?_⟩) (by assumption) ?_
      rotate_left
      focus (intro w hSw; (try dsimp only at hSw); go_simp; try (with_reducible rfl))
      try simp only [List.getElem_toArray, List.getElem_cons_zero, List.getElem_cons_succ, Act.put, List.setIfInBounds_toArray, List.set_cons_zero, List.set_cons_succ]
      refine' wpAnyT_take (i := 7) (v := _) rfl (by kernel_rfl) (by kernel_rfl) (by kernel_rfl) (by kernel_rfl) (by kernel_rfl) (fun _ _ _ h => h) (Or.inl ⟨by with_unfolding_all rfl, ?_⟩) (by assumption) ?_
      rotate_left
      focus (intro w hSw; (try dsimp only at hSw); go_simp; try (with_reducible rfl))
      try simp only [List.getElem_toArray, List.getElem_cons_zero, List.getElem_cons_succ, Act.put, List.setIfInBounds_toArray, List.set_cons_zero, List.set_cons_succ]
      refine' wpAnyT_take (i := 8) (v := _) rfl (by kernel_rfl) (by kernel_rfl) (by kernel_rfl) (by kernel_rfl) (by kernel_rfl) (fun _ _ _ h => h) (Or.inl ⟨by with_unfolding_all rfl, ?_⟩) (by assumption) ?_
      rotate_left
      focus (intro w hSw; (try dsimp only at hSw); go_simp; try (with_reducible rfl))
      try simp only [List.getElem_toArray, List.getElem_cons_zero, List.getElem_cons_succ, Act.put, List.setIfInBounds_toArray, List.set_cons_zero, List.set_cons_succ]
      refine' wpAnyT_take (i := 9) (v := _) rfl (by kernel_rfl) (by kernel_rfl) (by kernel_rfl) (by kernel_rfl) (by kernel_rfl) (fun _ _ _ h => h) (Or.inl ⟨by with_unfolding_all rfl, ?_⟩) (by assumption) ?_
      rotate_left
      focus (intro w hSw; (try dsimp only at hSw); go_simp; try (with_reducible rfl))
      try simp only [List.getElem_toArray, List.getElem_cons_zero, List.getElem_cons_succ, Act.put, List.setIfInBounds_toArray, List.set_cons_zero, List.set_cons_succ]
      refine' wpAnyT_take (i := 10) (v := _) rfl (by kernel_rfl) (by kernel_rfl) (by kernel_rfl) (by kernel_rfl) (by kernel_rfl) (fun _ _ _ h => h) (Or.inl ⟨by with_unfolding_all rfl, ?_⟩) (by assumption) ?_
      rotate_left
      focus (intro w hSw; (try dsimp only at hSw); go_simp; try (with_reducible rfl))
      try simp only [List.getElem_toArray, List.getElem_cons_zero, List.getElem_cons_succ, Act.put, List.setIfInBounds_toArray, List.set_cons_zero, List.set_cons_succ]
      refine' wpAnyT_take (i := 11) (v := _) rfl (by kernel_rfl) (by kernel_rfl) (by kernel_rfl) (by kernel_rfl) (by kernel_rfl) (fun _ _ _ h => h) (Or.inl ⟨by with_unfolding_all rfl, ?_⟩) (by assumption) ?_
      rotate_left
      focus (intro w hSw; (try dsimp only at hSw); go_simp; try (with_reducible rfl))
      try simp only [List.getElem_toArray, List.getElem_cons_zero, List.getElem_cons_succ, Act.put, List.setIfInBounds_toArray, List.set_cons_zero, List.set_cons_succ]
      refine' wpAnyT_take (i := 12) (v := _) rfl (by kernel_rfl) (by kernel_rfl) (by kernel_rfl) (by kernel_rfl) (by kernel_rfl) (fun _ _ _ h => h) (Or.inl ⟨by with_unfolding_all rfl, ?_⟩) (by assumption) ?_
      rotate_left
      focus (intro w hSw; (try dsimp only at hSw); go_simp; try (with_reducible rfl))
      try simp only [List.getElem_toArray, List.getElem_cons_zero, List.getElem_cons_succ, Act.put, List.setIfInBounds_toArray, List.set_cons_zero, List.set_cons_succ]
      refine' wpAnyT_take (i := 13) (v := _) rfl (by kernel_rfl) (by kernel_rfl) (by kernel_rfl) (by kernel_rfl) (by kernel_rfl) (fun _ _ _ h => h) (Or.inl ⟨by with_unfolding_all rfl, ?_⟩) (by assumption) ?_
      rotate_left
      focus (intro w hSw; (try dsimp only at hSw); go_simp; try (with_reducible rfl))
      try simp only [List.getElem_toArray, List.getElem_cons_zero, List.getElem_cons_succ, Act.put, List.setIfInBounds_toArray, List.set_cons_zero, List.set_cons_succ]
      refine' wpAnyT_take (i := 14) (v := _) rfl (by kernel_rfl) (by kernel_rfl) (by kernel_rfl) (by kernel_rfl) (by kernel_rfl) (fun _ _ _ h => h) (Or.inl ⟨by with_unfolding_all rfl, ?_⟩) (by assumption) ?_
      rotate_left
      focus (intro w hSw; (try dsimp only at hSw); go_simp; try (with_reducible rfl))
      try simp only [List.getElem_toArray, List.getElem_cons_zero, List.getElem_cons_succ, Act.put, List.setIfInBounds_toArray, List.set_cons_zero, List.set_cons_succ]
      refine' wpAnyT_take (i := 15) (v := _) rfl (by kernel_rfl) (by kernel_rfl) (by kernel_rfl) (by kernel_rfl) (by kernel_rfl) (fun _ _ _ h => h) (Or.inl ⟨by with_unfolding_all rfl, ?_⟩) (by assumption) ?_
      rotate_left
      focus (intro w hSw; (try dsimp only at hSw); go_simp; try (with_reducible rfl))
      try simp only [List.getElem_toArray, List.getElem_cons_zero, List.getElem_cons_succ, Act.put, List.setIfInBounds_toArray, List.set_cons_zero, List.set_cons_succ]
      refine' wpAnyT_take (i := 16) (v := _) rfl (by kernel_rfl) (by kernel_rfl) (by kernel_rfl) (by kernel_rfl) (by kernel_rfl) (fun _ _ _ h => h) (Or.inl ⟨by with_unfolding_all rfl, ?_⟩) (by assumption) ?_
      rotate_left
      focus (intro w hSw; (try dsimp only at hSw); go_simp; try (with_reducible rfl))
      try simp only [List.getElem_toArray, List.getElem_cons_zero, List.getElem_cons_succ, Act.put, List.setIfInBounds_toArray, List.set_cons_zero, List.set_cons_succ]
      refine' wpAnyT_take (i := 17) (v := _) rfl (by kernel_rfl) (by kernel_rfl) (by kernel_rfl) (by kernel_rfl) (by kernel_rfl) (fun _ _ _ h => h) (Or.inl ⟨by with_unfolding_all rfl, ?_⟩) (by assumption) ?_
      rotate_left
      focus (intro w hSw; (try dsimp only at hSw); go_simp; try (with_reducible rfl))
      try simp only [List.getElem_toArray, List.getElem_cons_zero, List.getElem_cons_succ, Act.put, List.setIfInBounds_toArray, List.set_cons_zero, List.set_cons_succ]
      refine wpAnyL_one (i := 18) (by kernel_rfl) rfl (fun K hK => ?_)
      rw [if_pos (by with_unfolding_all rfl)]
      go_simp
      (go_at_call 187; (with_reducible refine HRe.out.mono ?_); rintro e W6 ⟨v6, rfl, h6⟩; have cj0 := (show Blk W6 jb 161 (jcells F root pv av) from Hold.at h6 6 rfl).cell (k := 0) rfl; have cj1 := (show Blk W6 jb 161 (jcells F root pv av) from Hold.at h6 6 rfl).cell (k := 1) rfl; have cj3 := (show Blk W6 jb 161 (jcells F root pv av) from Hold.at h6 6 rfl).cell (k := 3) rfl; have cf3 := (show Blk W6 F.fl 156 (fcells A F.gp) from Hold.at h6 9 rfl).cell (k := 3) rfl; have cfl := (show Blk W6 F.fl 156 (fcells A F.gp) from Hold.at h6 9 rfl).lt; have cjl := (show Blk W6 jb 161 (jcells F root pv av) from Hold.at h6 6 rfl).lt; have RA : RowI W6 av J.anew := Hold.at h6 8 rfl; have RV : RowI W6 v6 L := h6.top; have HH6 := Lib.hid h6; clear h6)
      refine hK.out _ _ (fun _ => (by (try dsimp only); go_keep)) (fun hHeld => ?_)
      replace hHeld := hHeld (by decide)
      clear hK K
      try simp only [List.getElem_toArray, List.getElem_cons_zero, List.getElem_cons_succ, Act.put, List.setIfInBounds_toArray, List.set_cons_zero, List.set_cons_succ]
      refine wpAnyL_one (i := 19) (by kernel_rfl) rfl (fun K hK => ?_)
      rw [if_pos (by with_unfolding_all rfl)]
      refine app_I (.tmp 51) (.tmp 65) rfl av v6 (by simp [Act.eval]) (by simp [Act.eval]) J.anew L RA RV (by omega) (by omega) ?_; intro v7 w7 hr7 ho7 hk7 hb7; have h7 : HG w0 w7 A P V5 G3 (ints v6 L :: box jb 161 (jcells F root pv av) :: ints pv J.pinned :: ints v7 (J.anew ++ L) :: fths F A P ts) := Hold.step HH6.out 8 (ints v7 (J.anew ++ L)) rfl hr7 hk7 (fun b hb => hb7.elim (fun h => .inl (by have hb' : v7.ownBlock = some b := hb; rw [h] at hb'; exact hb')) (fun h => .inr (by have hb' : v7.ownBlock = some b := hb; rw [h] at hb'; exact Nat.le_of_eq (Option.some.inj hb')))); clear hk7 hb7 RA; obtain ⟨a7, n7, c7, rfl⟩ := row_form hr7; have dj0 := (show Blk w7 jb 161 (jcells F root pv av) from Hold.at h7 6 rfl).cell (k := 0) rfl; have dj1 := (show Blk w7 jb 161 (jcells F root pv av) from Hold.at h7 6 rfl).cell (k := 1) rfl; have dj3 := (show Blk w7 jb 161 (jcells F root pv av) from Hold.at h7 6 rfl).cell (k := 3) rfl; have df3 := (show Blk w7 F.fl 156 (fcells A F.gp) from Hold.at h7 9 rfl).cell (k := 3) rfl; have dfl := (show Blk w7 F.fl 156 (fcells A F.gp) from Hold.at h7 9 rfl).lt; have djl := (show Blk w7 jb 161 (jcells F root pv av) from Hold.at h7 6 rfl).lt; have djf := fun k => (show Blk w7 jb 161 (jcells F root pv av) from Hold.at h7 6 rfl).free k; have HH7 := Lib.hid h7; clear h7
      refine hK.out _ _ (fun _ => (by (try dsimp only); go_keep)) (fun hHeld => ?_)
      replace hHeld := hHeld (by decide)
      clear hK K
      try simp only [List.getElem_toArray, List.getElem_cons_zero, List.getElem_cons_succ, Act.put, List.setIfInBounds_toArray, List.set_cons_zero, List.set_cons_succ]
      refine' wpAnyT_take (i := 20) (v := _) rfl (by kernel_rfl) (by kernel_rfl) (by kernel_rfl) (by kernel_rfl) (by kernel_rfl) (fun _ _ _ h => h) (Or.inl ⟨by with_unfolding_all rfl, ?_⟩) (by assumption) ?_
      rotate_left
      focus (intro w hSw; (try dsimp only at hSw); go_simp; try (with_reducible rfl))
      try simp only [List.getElem_toArray, List.getElem_cons_zero, List.getElem_cons_succ, Act.put, List.setIfInBounds_toArray, List.set_cons_zero, List.set_cons_succ]
      refine' wpAnyT_take (i := 21) (v := _) rfl (by kernel_rfl) (by kernel_rfl) (by kernel_rfl) (by kernel_rfl) (by kernel_rfl) (fun _ _ _ h => h) (Or.inl ⟨by with_unfolding_all rfl, ?_⟩) (by assumption) ?_
      rotate_left
      focus (intro w hSw; (try dsimp only at hSw); go_simp; try (with_reducible rfl))
      try simp only [List.getElem_toArray, List.getElem_cons_zero, List.getElem_cons_succ, Act.put, List.setIfInBounds_toArray, List.set_cons_zero, List.set_cons_succ]
      refine wpAnyL_one (i := 22) (by kernel_rfl) rfl (fun K hK => ?_)
      rw [if_pos (by with_unfolding_all rfl)]
      go_simp
      refine hK.out _ _ (fun h => absurd rfl h) (fun _ => ?_)
      clear hK K
      refine wpAnyL_done (by kernel_rfl) ?_
      go_wp2_with fail
      have h8 : HG w0 _ A P V5 G3 (ints v6 L :: jths F jb root pv (.slice a7 n7 c7) J.pinned (J.anew ++ L) (fths F A P ts)) := Hold.put HH7.out 6 (b := jb) rfl 3 (.slice a7 n7 c7)
      exact bodyPost_end (results_none rfl _ _ _) rfl ⟨⟨_, rfl⟩, V5, _, by rw [HG3.out, HL3.out]; exact h8.tail⟩
theorem JG.boxes {w0 w : World} {A : GAd} {P : Pm} {V : GVl} {F : FA} {jb : Nat} {root : Int} {pv av : Value} {J : JS} {bs ts : List Thing} (H : HG w0 w A P V J.G (bs ++ jths F jb root pv av J.pinned J.anew (fths F A P ts))) : JG w0 w A P V F jb root pv av J (bs ++ ts) :=
  Hold.perm H (List.Perm.append_left _ (List.perm_append_comm_assoc bs [box jb 161 (jcells F root pv av), ints pv J.pinned, ints av J.anew, box F.fl 156 (fcells A F.gp), mapt F.gp F.hb F.mb F.cap P.hosts] ts).symm)
theorem JG.unbox {w0 w : World} {A : GAd} {P : Pm} {V : GVl} {F : FA} {jb : Nat} {root : Int} {pv av : Value} {J : JS} {bs ts : List Thing} (H : JG w0 w A P V F jb root pv av J (bs ++ ts)) : JG w0 w A P V F jb root pv av J ts :=
  Hold.sub H (List.Sublist.append_left (List.Sublist.append_left (List.sublist_append_right bs ts) [box jb 161 (jcells F root pv av), ints pv J.pinned, ints av J.anew, box F.fl 156 (fcells A F.gp), mapt F.gp F.hb F.mb F.cap P.hosts]) _)
set_option maxRecDepth 100000 in
set_option maxHeartbeats 2000000 in
theorem linkq_j {zb : Nat} {w0 w : World} {A : GAd} {P : Pm} {V : GVl} {F : FA} {jb : Nat} {root : Int} {pv av : Value} {J : JS} {ts : List Thing} (p : Int) (i : Nat) (dst : Int) (rw' ru rx : Bool)  (H : JG w0 w A P V F jb root pv av J (box (zb + 1 + 1 + 1 + 1) 48 [.bool rw', .bool ru, .bool rx] :: box (zb + 1 + 1 + 1) 3 [.int .i64 dst] :: box (zb + 1 + 1) 3 [.int .i64 (i : Int)] :: box (zb + 1) 3 [.int .i64 p] :: box (zb) 159 [.pointer (some ⟨jb, 0, none⟩)] :: ts)) :
    Calls Tryz.prog 133 #[.pointer (some ⟨zb, 0, none⟩), .pointer (some ⟨zb + 1, 0, none⟩), .pointer (some ⟨zb + 1 + 1, 0, none⟩), .pointer (some ⟨zb + 1 + 1 + 1, 0, none⟩), .pointer (some ⟨zb + 1 + 1 + 1 + 1, 0, none⟩)] w
      fun e w' => (∃ b, e = .returned b) ∧ ∃ V', JG w0 w' A P V' F jb root pv av { J with G := { J.G with s := (schild J.G.s p (i : Int) dst ⟨rw', ru, rx⟩).2 } } (box (zb + 1 + 1 + 1 + 1) 48 [.bool rw', .bool ru, .bool rx] :: box (zb + 1 + 1 + 1) 3 [.int .i64 dst] :: box (zb + 1 + 1) 3 [.int .i64 (i : Int)] :: box (zb + 1) 3 [.int .i64 p] :: box (zb) 159 [.pointer (some ⟨jb, 0, none⟩)] :: ts) := by
  have hc := child_h (H.past (Below.refl _ _).drew).hg p (i : Int) dst rw' ru rx
  have j0 := (show Blk w jb 161 (jcells F root pv av) from Hold.at H 5 rfl).cell (k := 0) rfl
  have f2 := (show Blk w F.fl 156 (fcells A F.gp) from Hold.at H 8 rfl).cell (k := 2) rfl
  have fl := (show Blk w F.fl 156 (fcells A F.gp) from Hold.at H 8 rfl).lt
  have jl := (show Blk w jb 161 (jcells F root pv av) from Hold.at H 5 rfl).lt
  have b00 := (show Blk w (zb) 159 [.pointer (some ⟨jb, 0, none⟩)] from Hold.at H 14 rfl).cell (k := 0) rfl
  have b0l := (show Blk w (zb) 159 [.pointer (some ⟨jb, 0, none⟩)] from Hold.at H 14 rfl).lt
  have b10 := (show Blk w (zb + 1) 3 [.int .i64 p] from Hold.at H 13 rfl).cell (k := 0) rfl
  have b1l := (show Blk w (zb + 1) 3 [.int .i64 p] from Hold.at H 13 rfl).lt
  have b20 := (show Blk w (zb + 1 + 1) 3 [.int .i64 (i : Int)] from Hold.at H 12 rfl).cell (k := 0) rfl
  have b2l := (show Blk w (zb + 1 + 1) 3 [.int .i64 (i : Int)] from Hold.at H 12 rfl).lt
  have b30 := (show Blk w (zb + 1 + 1 + 1) 3 [.int .i64 dst] from Hold.at H 11 rfl).cell (k := 0) rfl
  have b3l := (show Blk w (zb + 1 + 1 + 1) 3 [.int .i64 dst] from Hold.at H 11 rfl).lt
  have b40 := (show Blk w (zb + 1 + 1 + 1 + 1) 48 [.bool rw', .bool ru, .bool rx] from Hold.at H 10 rfl).cell (k := 0) rfl
  have b41 := (show Blk w (zb + 1 + 1 + 1 + 1) 48 [.bool rw', .bool ru, .bool rx] from Hold.at H 10 rfl).cell (k := 1) rfl
  have b42 := (show Blk w (zb + 1 + 1 + 1 + 1) 48 [.bool rw', .bool ru, .bool rx] from Hold.at H 10 rfl).cell (k := 2) rfl
  have b4l := (show Blk w (zb + 1 + 1 + 1 + 1) 48 [.bool rw', .bool ru, .bool rx] from Hold.at H 10 rfl).lt
  have HC := Lib.hid hc
  clear hc H
  go_enter Tryz.func133, Tryz.ntmps133
  go_wp2_with fail
  go_region_held3 (fun w' => w'.cell? ⟨jb, 0, none⟩ = some (.pointer (some ⟨F.fl, 0, none⟩)) ∧ w'.cell? ⟨F.fl, 2, none⟩ = some (.pointer (some ⟨A.sp, 0, none⟩)) ∧ w'.cell? ⟨zb, 0, none⟩ = some (.pointer (some ⟨jb, 0, none⟩)) ∧ w'.cell? ⟨zb + 1, 0, none⟩ = some (.int .i64 p) ∧ w'.cell? ⟨zb + 1 + 1, 0, none⟩ = some (.int .i64 (i : Int)) ∧ w'.cell? ⟨zb + 1 + 1 + 1, 0, none⟩ = some (.int .i64 dst) ∧ w'.cell? ⟨zb + 1 + 1 + 1 + 1, 0, none⟩ = some (.bool rw') ∧ w'.cell? ⟨zb + 1 + 1 + 1 + 1, 1, none⟩ = some (.bool ru) ∧ w'.cell? ⟨zb + 1 + 1 + 1 + 1, 2, none⟩ = some (.bool rx)) (go_keep) (first
    | (go_at_call 134; (with_reducible refine HC.out.mono ?_); rintro e W3 ⟨rfl, h3⟩; have h3' : JG w0 W3 A P V F jb root pv av { J with G := { J.G with s := (schild J.G.s p (i : Int) dst ⟨rw', ru, rx⟩).2 } } (box (zb + 1 + 1 + 1 + 1) 48 [.bool rw', .bool ru, .bool rx] :: box (zb + 1 + 1 + 1) 3 [.int .i64 dst] :: box (zb + 1 + 1) 3 [.int .i64 (i : Int)] :: box (zb + 1) 3 [.int .i64 p] :: box (zb) 159 [.pointer (some ⟨jb, 0, none⟩)] :: ts) := h3; have cj0 := (show Blk W3 jb 161 (jcells F root pv av) from Hold.at h3' 5 rfl).cell (k := 0) rfl; have cf2 := (show Blk W3 F.fl 156 (fcells A F.gp) from Hold.at h3' 8 rfl).cell (k := 2) rfl; have cfl := (show Blk W3 F.fl 156 (fcells A F.gp) from Hold.at h3' 8 rfl).lt; have cjl := (show Blk W3 jb 161 (jcells F root pv av) from Hold.at h3' 5 rfl).lt; have cb00 := (show Blk W3 (zb) 159 [.pointer (some ⟨jb, 0, none⟩)] from Hold.at h3' 14 rfl).cell (k := 0) rfl; have cb0l := (show Blk W3 (zb) 159 [.pointer (some ⟨jb, 0, none⟩)] from Hold.at h3' 14 rfl).lt; have cb10 := (show Blk W3 (zb + 1) 3 [.int .i64 p] from Hold.at h3' 13 rfl).cell (k := 0) rfl; have cb1l := (show Blk W3 (zb + 1) 3 [.int .i64 p] from Hold.at h3' 13 rfl).lt; have cb20 := (show Blk W3 (zb + 1 + 1) 3 [.int .i64 (i : Int)] from Hold.at h3' 12 rfl).cell (k := 0) rfl; have cb2l := (show Blk W3 (zb + 1 + 1) 3 [.int .i64 (i : Int)] from Hold.at h3' 12 rfl).lt; have cb30 := (show Blk W3 (zb + 1 + 1 + 1) 3 [.int .i64 dst] from Hold.at h3' 11 rfl).cell (k := 0) rfl; have cb3l := (show Blk W3 (zb + 1 + 1 + 1) 3 [.int .i64 dst] from Hold.at h3' 11 rfl).lt; have cb40 := (show Blk W3 (zb + 1 + 1 + 1 + 1) 48 [.bool rw', .bool ru, .bool rx] from Hold.at h3' 10 rfl).cell (k := 0) rfl; have cb41 := (show Blk W3 (zb + 1 + 1 + 1 + 1) 48 [.bool rw', .bool ru, .bool rx] from Hold.at h3' 10 rfl).cell (k := 1) rfl; have cb42 := (show Blk W3 (zb + 1 + 1 + 1 + 1) 48 [.bool rw', .bool ru, .bool rx] from Hold.at h3' 10 rfl).cell (k := 2) rfl; have cb4l := (show Blk W3 (zb + 1 + 1 + 1 + 1) 48 [.bool rw', .bool ru, .bool rx] from Hold.at h3' 10 rfl).lt; have HH3 := Lib.hid h3'; clear h3 h3'))
  all_goals go_wp2_with fail
  all_goals go_ret
  all_goals exact ⟨⟨_, rfl⟩, V, HH3.out⟩
set_option maxRecDepth 100000 in
set_option maxHeartbeats 2000000 in
theorem leafq_j {zb : Nat} {w0 w : World} {A : GAd} {P : Pm} {V : GVl} {F : FA} {jb : Nat} {root : Int} {pv av : Value} {J : JS} {ts : List Thing} (p : Int) (i : Nat) (dst : Int) (rw' ru rx : Bool) (hh : Nat) (H : JG w0 w A P V F jb root pv av J (box (zb + 1 + 1 + 1 + 1 + 1) 3 [.int .i64 ((hh : Nat) : Int)] :: box (zb + 1 + 1 + 1 + 1) 48 [.bool rw', .bool ru, .bool rx] :: box (zb + 1 + 1 + 1) 3 [.int .i64 dst] :: box (zb + 1 + 1) 3 [.int .i64 (i : Int)] :: box (zb + 1) 3 [.int .i64 p] :: box (zb) 159 [.pointer (some ⟨jb, 0, none⟩)] :: ts)) :
    Calls Tryz.prog 135 #[.pointer (some ⟨zb, 0, none⟩), .pointer (some ⟨zb + 1, 0, none⟩), .pointer (some ⟨zb + 1 + 1, 0, none⟩), .pointer (some ⟨zb + 1 + 1 + 1, 0, none⟩), .pointer (some ⟨zb + 1 + 1 + 1 + 1 + 1, 0, none⟩), .pointer (some ⟨zb + 1 + 1 + 1 + 1, 0, none⟩)] w
      fun e w' => (∃ b, e = .returned b) ∧ ∃ V', JG w0 w' A P V' F jb root pv av { J with G := { J.G with s := (sleaf P.n J.G.s p (i : Int) dst ((hh : Nat) : Int) ⟨rw', ru, rx⟩).2 } } (box (zb + 1 + 1 + 1 + 1 + 1) 3 [.int .i64 ((hh : Nat) : Int)] :: box (zb + 1 + 1 + 1 + 1) 48 [.bool rw', .bool ru, .bool rx] :: box (zb + 1 + 1 + 1) 3 [.int .i64 dst] :: box (zb + 1 + 1) 3 [.int .i64 (i : Int)] :: box (zb + 1) 3 [.int .i64 p] :: box (zb) 159 [.pointer (some ⟨jb, 0, none⟩)] :: ts) := by
  have hc := leaf_h (H.past (Below.refl _ _).drew).hg p (i : Int) dst ((hh : Nat) : Int) rw' ru rx
  have j0 := (show Blk w jb 161 (jcells F root pv av) from Hold.at H 5 rfl).cell (k := 0) rfl
  have f2 := (show Blk w F.fl 156 (fcells A F.gp) from Hold.at H 8 rfl).cell (k := 2) rfl
  have fl := (show Blk w F.fl 156 (fcells A F.gp) from Hold.at H 8 rfl).lt
  have jl := (show Blk w jb 161 (jcells F root pv av) from Hold.at H 5 rfl).lt
  have b00 := (show Blk w (zb) 159 [.pointer (some ⟨jb, 0, none⟩)] from Hold.at H 15 rfl).cell (k := 0) rfl
  have b0l := (show Blk w (zb) 159 [.pointer (some ⟨jb, 0, none⟩)] from Hold.at H 15 rfl).lt
  have b10 := (show Blk w (zb + 1) 3 [.int .i64 p] from Hold.at H 14 rfl).cell (k := 0) rfl
  have b1l := (show Blk w (zb + 1) 3 [.int .i64 p] from Hold.at H 14 rfl).lt
  have b20 := (show Blk w (zb + 1 + 1) 3 [.int .i64 (i : Int)] from Hold.at H 13 rfl).cell (k := 0) rfl
  have b2l := (show Blk w (zb + 1 + 1) 3 [.int .i64 (i : Int)] from Hold.at H 13 rfl).lt
  have b30 := (show Blk w (zb + 1 + 1 + 1) 3 [.int .i64 dst] from Hold.at H 12 rfl).cell (k := 0) rfl
  have b3l := (show Blk w (zb + 1 + 1 + 1) 3 [.int .i64 dst] from Hold.at H 12 rfl).lt
  have b40 := (show Blk w (zb + 1 + 1 + 1 + 1) 48 [.bool rw', .bool ru, .bool rx] from Hold.at H 11 rfl).cell (k := 0) rfl
  have b41 := (show Blk w (zb + 1 + 1 + 1 + 1) 48 [.bool rw', .bool ru, .bool rx] from Hold.at H 11 rfl).cell (k := 1) rfl
  have b42 := (show Blk w (zb + 1 + 1 + 1 + 1) 48 [.bool rw', .bool ru, .bool rx] from Hold.at H 11 rfl).cell (k := 2) rfl
  have b4l := (show Blk w (zb + 1 + 1 + 1 + 1) 48 [.bool rw', .bool ru, .bool rx] from Hold.at H 11 rfl).lt
  have b50 := (show Blk w (zb + 1 + 1 + 1 + 1 + 1) 3 [.int .i64 ((hh : Nat) : Int)] from Hold.at H 10 rfl).cell (k := 0) rfl
  have b5l := (show Blk w (zb + 1 + 1 + 1 + 1 + 1) 3 [.int .i64 ((hh : Nat) : Int)] from Hold.at H 10 rfl).lt
  have HC := Lib.hid hc
  clear hc H
  go_enter Tryz.func135, Tryz.ntmps135
  go_wp2_with fail
  go_region_held3 (fun w' => w'.cell? ⟨jb, 0, none⟩ = some (.pointer (some ⟨F.fl, 0, none⟩)) ∧ w'.cell? ⟨F.fl, 2, none⟩ = some (.pointer (some ⟨A.sp, 0, none⟩)) ∧ w'.cell? ⟨zb, 0, none⟩ = some (.pointer (some ⟨jb, 0, none⟩)) ∧ w'.cell? ⟨zb + 1, 0, none⟩ = some (.int .i64 p) ∧ w'.cell? ⟨zb + 1 + 1, 0, none⟩ = some (.int .i64 (i : Int)) ∧ w'.cell? ⟨zb + 1 + 1 + 1, 0, none⟩ = some (.int .i64 dst) ∧ w'.cell? ⟨zb + 1 + 1 + 1 + 1, 0, none⟩ = some (.bool rw') ∧ w'.cell? ⟨zb + 1 + 1 + 1 + 1, 1, none⟩ = some (.bool ru) ∧ w'.cell? ⟨zb + 1 + 1 + 1 + 1, 2, none⟩ = some (.bool rx) ∧ w'.cell? ⟨zb + 1 + 1 + 1 + 1 + 1, 0, none⟩ = some (.int .i64 ((hh : Nat) : Int))) (go_keep) (first
    | (go_at_call 136; (with_reducible refine HC.out.mono ?_); rintro e W3 ⟨rfl, h3⟩; have h3' : JG w0 W3 A P V F jb root pv av { J with G := { J.G with s := (sleaf P.n J.G.s p (i : Int) dst ((hh : Nat) : Int) ⟨rw', ru, rx⟩).2 } } (box (zb + 1 + 1 + 1 + 1 + 1) 3 [.int .i64 ((hh : Nat) : Int)] :: box (zb + 1 + 1 + 1 + 1) 48 [.bool rw', .bool ru, .bool rx] :: box (zb + 1 + 1 + 1) 3 [.int .i64 dst] :: box (zb + 1 + 1) 3 [.int .i64 (i : Int)] :: box (zb + 1) 3 [.int .i64 p] :: box (zb) 159 [.pointer (some ⟨jb, 0, none⟩)] :: ts) := h3; have cj0 := (show Blk W3 jb 161 (jcells F root pv av) from Hold.at h3' 5 rfl).cell (k := 0) rfl; have cf2 := (show Blk W3 F.fl 156 (fcells A F.gp) from Hold.at h3' 8 rfl).cell (k := 2) rfl; have cfl := (show Blk W3 F.fl 156 (fcells A F.gp) from Hold.at h3' 8 rfl).lt; have cjl := (show Blk W3 jb 161 (jcells F root pv av) from Hold.at h3' 5 rfl).lt; have cb00 := (show Blk W3 (zb) 159 [.pointer (some ⟨jb, 0, none⟩)] from Hold.at h3' 15 rfl).cell (k := 0) rfl; have cb0l := (show Blk W3 (zb) 159 [.pointer (some ⟨jb, 0, none⟩)] from Hold.at h3' 15 rfl).lt; have cb10 := (show Blk W3 (zb + 1) 3 [.int .i64 p] from Hold.at h3' 14 rfl).cell (k := 0) rfl; have cb1l := (show Blk W3 (zb + 1) 3 [.int .i64 p] from Hold.at h3' 14 rfl).lt; have cb20 := (show Blk W3 (zb + 1 + 1) 3 [.int .i64 (i : Int)] from Hold.at h3' 13 rfl).cell (k := 0) rfl; have cb2l := (show Blk W3 (zb + 1 + 1) 3 [.int .i64 (i : Int)] from Hold.at h3' 13 rfl).lt; have cb30 := (show Blk W3 (zb + 1 + 1 + 1) 3 [.int .i64 dst] from Hold.at h3' 12 rfl).cell (k := 0) rfl; have cb3l := (show Blk W3 (zb + 1 + 1 + 1) 3 [.int .i64 dst] from Hold.at h3' 12 rfl).lt; have cb40 := (show Blk W3 (zb + 1 + 1 + 1 + 1) 48 [.bool rw', .bool ru, .bool rx] from Hold.at h3' 11 rfl).cell (k := 0) rfl; have cb41 := (show Blk W3 (zb + 1 + 1 + 1 + 1) 48 [.bool rw', .bool ru, .bool rx] from Hold.at h3' 11 rfl).cell (k := 1) rfl; have cb42 := (show Blk W3 (zb + 1 + 1 + 1 + 1) 48 [.bool rw', .bool ru, .bool rx] from Hold.at h3' 11 rfl).cell (k := 2) rfl; have cb4l := (show Blk W3 (zb + 1 + 1 + 1 + 1) 48 [.bool rw', .bool ru, .bool rx] from Hold.at h3' 11 rfl).lt; have cb50 := (show Blk W3 (zb + 1 + 1 + 1 + 1 + 1) 3 [.int .i64 ((hh : Nat) : Int)] from Hold.at h3' 10 rfl).cell (k := 0) rfl; have cb5l := (show Blk W3 (zb + 1 + 1 + 1 + 1 + 1) 3 [.int .i64 ((hh : Nat) : Int)] from Hold.at h3' 10 rfl).lt; have HH3 := Lib.hid h3'; clear h3 h3'))
  all_goals go_wp2_with fail
  all_goals go_ret
  all_goals exact ⟨⟨_, rfl⟩, V, HH3.out⟩
set_option maxRecDepth 100000 in
set_option maxHeartbeats 2000000 in
theorem link_j {w0 w : World} {A : GAd} {P : Pm} {V : GVl} {F : FA} {jb : Nat} {root : Int} {pv av : Value} {J : JS} {ts : List Thing} (H : JG w0 w A P V F jb root pv av J ts) (p : Int) (i : Nat) (hi : i < 8) (dst : Int) (rw' ru rx : Bool) (hl : J.anew.length ≤ 90000) :
    Calls Tryz.prog 77 #[.pointer (some ⟨jb, 0, none⟩), .int .i64 p, .int .i64 (i : Int), .int .i64 dst, .agg #[.bool rw', .bool ru, .bool rx]] w
      fun e w' => (∃ r, e = .returned r) ∧ ∃ V' av', JG w0 w' A P V' F jb root pv av' (jlink P J root p (i : Int) dst ⟨rw', ru, rx⟩) ts := by
  obtain ⟨zb, hzb⟩ : ∃ x, w.heap.size = x := ⟨_, rfl⟩
  have bq0 := bal w (.cells #[.pointer (some ⟨jb, 0, none⟩)] 159)
  have kq0 := Blk.new w 159 [.pointer (some ⟨jb, 0, none⟩)]
  have sq0 : (w.alloc (.cells #[.pointer (some ⟨jb, 0, none⟩)] 159)).heap.size = w.heap.size + 1 := by simp
  obtain ⟨w1, hw1⟩ : ∃ W', w.alloc (.cells #[.pointer (some ⟨jb, 0, none⟩)] 159) = W' := ⟨_, rfl⟩
  rw [show (w.alloc (.cells ([.pointer (some ⟨jb, 0, none⟩)] : List Value).toArray 159)) = w1 from hw1, hzb] at kq0
  rw [hw1] at bq0 sq0
  rw [hzb] at sq0
  have hq0 : HG w0 w1 A P V J.G (box (zb) 159 [.pointer (some ⟨jb, 0, none⟩)] :: jths F jb root pv av J.pinned J.anew (fths F A P ts)) := HG.add H.hg bq0 _ kq0 (fun b e => by rw [show b = zb from e]; omega)
  have bq1 := bal w1 (.cells #[.int .i64 p] 3)
  have kq1 := Blk.new w1 3 [.int .i64 p]
  have sq1 : (w1.alloc (.cells #[.int .i64 p] 3)).heap.size = w1.heap.size + 1 := by simp
  obtain ⟨w2, hw2⟩ : ∃ W', w1.alloc (.cells #[.int .i64 p] 3) = W' := ⟨_, rfl⟩
  rw [show (w1.alloc (.cells ([.int .i64 p] : List Value).toArray 3)) = w2 from hw2, sq0] at kq1
  rw [hw2] at bq1 sq1
  rw [sq0] at sq1
  have hq1 : HG w0 w2 A P V J.G (box (zb + 1) 3 [.int .i64 p] :: box (zb) 159 [.pointer (some ⟨jb, 0, none⟩)] :: jths F jb root pv av J.pinned J.anew (fths F A P ts)) := HG.add hq0 bq1 _ kq1 (fun b e => by rw [show b = zb + 1 from e]; rw [sq0]; exact Nat.le_refl _)
  have bq2 := bal w2 (.cells #[.int .i64 (i : Int)] 3)
  have kq2 := Blk.new w2 3 [.int .i64 (i : Int)]
  have sq2 : (w2.alloc (.cells #[.int .i64 (i : Int)] 3)).heap.size = w2.heap.size + 1 := by simp
  obtain ⟨w3, hw3⟩ : ∃ W', w2.alloc (.cells #[.int .i64 (i : Int)] 3) = W' := ⟨_, rfl⟩
  rw [show (w2.alloc (.cells ([.int .i64 (i : Int)] : List Value).toArray 3)) = w3 from hw3, sq1] at kq2
  rw [hw3] at bq2 sq2
  rw [sq1] at sq2
  have hq2 : HG w0 w3 A P V J.G (box (zb + 1 + 1) 3 [.int .i64 (i : Int)] :: box (zb + 1) 3 [.int .i64 p] :: box (zb) 159 [.pointer (some ⟨jb, 0, none⟩)] :: jths F jb root pv av J.pinned J.anew (fths F A P ts)) := HG.add hq1 bq2 _ kq2 (fun b e => by rw [show b = zb + 1 + 1 from e]; rw [sq1]; exact Nat.le_refl _)
  have bq3 := bal w3 (.cells #[.int .i64 dst] 3)
  have kq3 := Blk.new w3 3 [.int .i64 dst]
  have sq3 : (w3.alloc (.cells #[.int .i64 dst] 3)).heap.size = w3.heap.size + 1 := by simp
  obtain ⟨w4, hw4⟩ : ∃ W', w3.alloc (.cells #[.int .i64 dst] 3) = W' := ⟨_, rfl⟩
  rw [show (w3.alloc (.cells ([.int .i64 dst] : List Value).toArray 3)) = w4 from hw4, sq2] at kq3
  rw [hw4] at bq3 sq3
  rw [sq2] at sq3
  have hq3 : HG w0 w4 A P V J.G (box (zb + 1 + 1 + 1) 3 [.int .i64 dst] :: box (zb + 1 + 1) 3 [.int .i64 (i : Int)] :: box (zb + 1) 3 [.int .i64 p] :: box (zb) 159 [.pointer (some ⟨jb, 0, none⟩)] :: jths F jb root pv av J.pinned J.anew (fths F A P ts)) := HG.add hq2 bq3 _ kq3 (fun b e => by rw [show b = zb + 1 + 1 + 1 from e]; rw [sq2]; exact Nat.le_refl _)
  have bq4 := bal w4 (.cells #[.bool rw', .bool ru, .bool rx] 48)
  have kq4 := Blk.new w4 48 [.bool rw', .bool ru, .bool rx]
  have sq4 : (w4.alloc (.cells #[.bool rw', .bool ru, .bool rx] 48)).heap.size = w4.heap.size + 1 := by simp
  obtain ⟨w5, hw5⟩ : ∃ W', w4.alloc (.cells #[.bool rw', .bool ru, .bool rx] 48) = W' := ⟨_, rfl⟩
  rw [show (w4.alloc (.cells ([.bool rw', .bool ru, .bool rx] : List Value).toArray 48)) = w5 from hw5, sq3] at kq4
  rw [hw5] at bq4 sq4
  rw [sq3] at sq4
  have hq4 : HG w0 w5 A P V J.G (box (zb + 1 + 1 + 1 + 1) 48 [.bool rw', .bool ru, .bool rx] :: box (zb + 1 + 1 + 1) 3 [.int .i64 dst] :: box (zb + 1 + 1) 3 [.int .i64 (i : Int)] :: box (zb + 1) 3 [.int .i64 p] :: box (zb) 159 [.pointer (some ⟨jb, 0, none⟩)] :: jths F jb root pv av J.pinned J.anew (fths F A P ts)) := HG.add hq3 bq4 _ kq4 (fun b e => by rw [show b = zb + 1 + 1 + 1 + 1 from e]; rw [sq3]; exact Nat.le_refl _)
  have HW1 := Lib.hid hw1
  have HW2 := Lib.hid hw2
  have HW3 := Lib.hid hw3
  have HW4 := Lib.hid hw4
  have HW5 := Lib.hid hw5
  have HZB := Lib.hid hzb
  have hbx : JG w0 w5 A P V F jb root pv av J (box (zb + 1 + 1 + 1 + 1) 48 [.bool rw', .bool ru, .bool rx] :: box (zb + 1 + 1 + 1) 3 [.int .i64 dst] :: box (zb + 1 + 1) 3 [.int .i64 (i : Int)] :: box (zb + 1) 3 [.int .i64 p] :: box (zb) 159 [.pointer (some ⟨jb, 0, none⟩)] :: ts) := JG.boxes (bs := [box (zb + 1 + 1 + 1 + 1) 48 [.bool rw', .bool ru, .bool rx], box (zb + 1 + 1 + 1) 3 [.int .i64 dst], box (zb + 1 + 1) 3 [.int .i64 (i : Int)], box (zb + 1) 3 [.int .i64 p], box (zb) 159 [.pointer (some ⟨jb, 0, none⟩)]]) hq4
  have SZ := Lib.hid sq4
  clear bq0 kq0 sq0 hw1 hq0 bq1 kq1 sq1 hw2 hq1 bq2 kq2 sq2 hw3 hq2 bq3 kq3 sq3 hw4 hq3 bq4 kq4 sq4 hw5 hq4 hzb
  have hly := lay_j hbx p i hi 1 dst rw' ru rx 133 #[.pointer (some ⟨zb, 0, none⟩), .pointer (some ⟨zb + 1, 0, none⟩), .pointer (some ⟨zb + 1 + 1, 0, none⟩), .pointer (some ⟨zb + 1 + 1 + 1, 0, none⟩), .pointer (some ⟨zb + 1 + 1 + 1 + 1, 0, none⟩)] (fun G => { G with s := (schild G.s p (i : Int) dst ⟨rw', ru, rx⟩).2 }) hl (enters_of Tryz.func133 (by kernel_rfl) rfl) (fun W V' G' h => linkq_j (J := { J with G := G' }) p i dst rw' ru rx h)
  have b00 := (show Blk w5 (zb) 159 [.pointer (some ⟨jb, 0, none⟩)] from Hold.at hbx 14 rfl).cell (k := 0) rfl
  have b0l := (show Blk w5 (zb) 159 [.pointer (some ⟨jb, 0, none⟩)] from Hold.at hbx 14 rfl).lt
  have b10 := (show Blk w5 (zb + 1) 3 [.int .i64 p] from Hold.at hbx 13 rfl).cell (k := 0) rfl
  have b1l := (show Blk w5 (zb + 1) 3 [.int .i64 p] from Hold.at hbx 13 rfl).lt
  have b20 := (show Blk w5 (zb + 1 + 1) 3 [.int .i64 (i : Int)] from Hold.at hbx 12 rfl).cell (k := 0) rfl
  have b2l := (show Blk w5 (zb + 1 + 1) 3 [.int .i64 (i : Int)] from Hold.at hbx 12 rfl).lt
  have b30 := (show Blk w5 (zb + 1 + 1 + 1) 3 [.int .i64 dst] from Hold.at hbx 11 rfl).cell (k := 0) rfl
  have b3l := (show Blk w5 (zb + 1 + 1 + 1) 3 [.int .i64 dst] from Hold.at hbx 11 rfl).lt
  have b40 := (show Blk w5 (zb + 1 + 1 + 1 + 1) 48 [.bool rw', .bool ru, .bool rx] from Hold.at hbx 10 rfl).cell (k := 0) rfl
  have b41 := (show Blk w5 (zb + 1 + 1 + 1 + 1) 48 [.bool rw', .bool ru, .bool rx] from Hold.at hbx 10 rfl).cell (k := 1) rfl
  have b42 := (show Blk w5 (zb + 1 + 1 + 1 + 1) 48 [.bool rw', .bool ru, .bool rx] from Hold.at hbx 10 rfl).cell (k := 2) rfl
  have b4l := (show Blk w5 (zb + 1 + 1 + 1 + 1) 48 [.bool rw', .bool ru, .bool rx] from Hold.at hbx 10 rfl).lt
  have HL := Lib.hid hly
  clear hly hbx H
  go_enter Tryz.func77, Tryz.ntmps77
  go_upto_region 1 with (fail)
  rw [HW1.out, HW2.out, HW3.out, HW4.out, HW5.out, HZB.out]
  go_wp2_with (go_at_call 132; (with_reducible refine HL.out.mono ?_); rintro e W7 ⟨⟨r7, rfl⟩, V7, av7, h7⟩; have HH7 := Lib.hid h7; clear h7)
  exact bodyPost_end (results_none rfl _ _ _) rfl ⟨⟨_, rfl⟩, V7, av7, JG.unbox (bs := [box (zb + 1 + 1 + 1 + 1) 48 [.bool rw', .bool ru, .bool rx], box (zb + 1 + 1 + 1) 3 [.int .i64 dst], box (zb + 1 + 1) 3 [.int .i64 (i : Int)], box (zb + 1) 3 [.int .i64 p], box (zb) 159 [.pointer (some ⟨jb, 0, none⟩)]]) HH7.out⟩
set_option maxRecDepth 100000 in
set_option maxHeartbeats 2000000 in
theorem leaf_j {w0 w : World} {A : GAd} {P : Pm} {V : GVl} {F : FA} {jb : Nat} {root : Int} {pv av : Value} {J : JS} {ts : List Thing} (H : JG w0 w A P V F jb root pv av J ts) (p : Int) (i : Nat) (hi : i < 8) (dst : Int) (rw' ru rx : Bool) (hl : J.anew.length ≤ 90000) :
    Calls Tryz.prog 78 #[.pointer (some ⟨jb, 0, none⟩), .int .i64 p, .int .i64 (i : Int), .int .i64 dst, .agg #[.bool rw', .bool ru, .bool rx]] w
      fun e w' => (∃ r, e = .returned r) ∧ ∃ V' av', JG w0 w' A P V' F jb root pv av' (jleaf P J root p (i : Int) dst ⟨rw', ru, rx⟩) ts := by
  have hjl : jleaf P J root p (i : Int) dst ⟨rw', ru, rx⟩ = jlay P J root p (i : Int) ⟨2, dst, ⟨rw', ru, rx⟩⟩ (fun G => { G with s := (sleaf P.n G.s p (i : Int) dst (((ghost P dst).getD 0 : Nat) : Int) ⟨rw', ru, rx⟩).2 }) := rfl
  rw [hjl]
  obtain ⟨zb, hzb⟩ : ∃ x, w.heap.size = x := ⟨_, rfl⟩
  have bq0 := bal w (.cells #[.pointer (some ⟨jb, 0, none⟩)] 159)
  have kq0 := Blk.new w 159 [.pointer (some ⟨jb, 0, none⟩)]
  have sq0 : (w.alloc (.cells #[.pointer (some ⟨jb, 0, none⟩)] 159)).heap.size = w.heap.size + 1 := by simp
  obtain ⟨w1, hw1⟩ : ∃ W', w.alloc (.cells #[.pointer (some ⟨jb, 0, none⟩)] 159) = W' := ⟨_, rfl⟩
  rw [show (w.alloc (.cells ([.pointer (some ⟨jb, 0, none⟩)] : List Value).toArray 159)) = w1 from hw1, hzb] at kq0
  rw [hw1] at bq0 sq0
  rw [hzb] at sq0
  have hq0 : HG w0 w1 A P V J.G (box (zb) 159 [.pointer (some ⟨jb, 0, none⟩)] :: jths F jb root pv av J.pinned J.anew (fths F A P ts)) := HG.add H.hg bq0 _ kq0 (fun b e => by rw [show b = zb from e]; omega)
  have bq1 := bal w1 (.cells #[.int .i64 p] 3)
  have kq1 := Blk.new w1 3 [.int .i64 p]
  have sq1 : (w1.alloc (.cells #[.int .i64 p] 3)).heap.size = w1.heap.size + 1 := by simp
  obtain ⟨w2, hw2⟩ : ∃ W', w1.alloc (.cells #[.int .i64 p] 3) = W' := ⟨_, rfl⟩
  rw [show (w1.alloc (.cells ([.int .i64 p] : List Value).toArray 3)) = w2 from hw2, sq0] at kq1
  rw [hw2] at bq1 sq1
  rw [sq0] at sq1
  have hq1 : HG w0 w2 A P V J.G (box (zb + 1) 3 [.int .i64 p] :: box (zb) 159 [.pointer (some ⟨jb, 0, none⟩)] :: jths F jb root pv av J.pinned J.anew (fths F A P ts)) := HG.add hq0 bq1 _ kq1 (fun b e => by rw [show b = zb + 1 from e]; rw [sq0]; exact Nat.le_refl _)
  have bq2 := bal w2 (.cells #[.int .i64 (i : Int)] 3)
  have kq2 := Blk.new w2 3 [.int .i64 (i : Int)]
  have sq2 : (w2.alloc (.cells #[.int .i64 (i : Int)] 3)).heap.size = w2.heap.size + 1 := by simp
  obtain ⟨w3, hw3⟩ : ∃ W', w2.alloc (.cells #[.int .i64 (i : Int)] 3) = W' := ⟨_, rfl⟩
  rw [show (w2.alloc (.cells ([.int .i64 (i : Int)] : List Value).toArray 3)) = w3 from hw3, sq1] at kq2
  rw [hw3] at bq2 sq2
  rw [sq1] at sq2
  have hq2 : HG w0 w3 A P V J.G (box (zb + 1 + 1) 3 [.int .i64 (i : Int)] :: box (zb + 1) 3 [.int .i64 p] :: box (zb) 159 [.pointer (some ⟨jb, 0, none⟩)] :: jths F jb root pv av J.pinned J.anew (fths F A P ts)) := HG.add hq1 bq2 _ kq2 (fun b e => by rw [show b = zb + 1 + 1 from e]; rw [sq1]; exact Nat.le_refl _)
  have bq3 := bal w3 (.cells #[.int .i64 dst] 3)
  have kq3 := Blk.new w3 3 [.int .i64 dst]
  have sq3 : (w3.alloc (.cells #[.int .i64 dst] 3)).heap.size = w3.heap.size + 1 := by simp
  obtain ⟨w4, hw4⟩ : ∃ W', w3.alloc (.cells #[.int .i64 dst] 3) = W' := ⟨_, rfl⟩
  rw [show (w3.alloc (.cells ([.int .i64 dst] : List Value).toArray 3)) = w4 from hw4, sq2] at kq3
  rw [hw4] at bq3 sq3
  rw [sq2] at sq3
  have hq3 : HG w0 w4 A P V J.G (box (zb + 1 + 1 + 1) 3 [.int .i64 dst] :: box (zb + 1 + 1) 3 [.int .i64 (i : Int)] :: box (zb + 1) 3 [.int .i64 p] :: box (zb) 159 [.pointer (some ⟨jb, 0, none⟩)] :: jths F jb root pv av J.pinned J.anew (fths F A P ts)) := HG.add hq2 bq3 _ kq3 (fun b e => by rw [show b = zb + 1 + 1 + 1 from e]; rw [sq2]; exact Nat.le_refl _)
  have bq4 := bal w4 (.cells #[.bool rw', .bool ru, .bool rx] 48)
  have kq4 := Blk.new w4 48 [.bool rw', .bool ru, .bool rx]
  have sq4 : (w4.alloc (.cells #[.bool rw', .bool ru, .bool rx] 48)).heap.size = w4.heap.size + 1 := by simp
  obtain ⟨w5, hw5⟩ : ∃ W', w4.alloc (.cells #[.bool rw', .bool ru, .bool rx] 48) = W' := ⟨_, rfl⟩
  rw [show (w4.alloc (.cells ([.bool rw', .bool ru, .bool rx] : List Value).toArray 48)) = w5 from hw5, sq3] at kq4
  rw [hw5] at bq4 sq4
  rw [sq3] at sq4
  have hq4 : HG w0 w5 A P V J.G (box (zb + 1 + 1 + 1 + 1) 48 [.bool rw', .bool ru, .bool rx] :: box (zb + 1 + 1 + 1) 3 [.int .i64 dst] :: box (zb + 1 + 1) 3 [.int .i64 (i : Int)] :: box (zb + 1) 3 [.int .i64 p] :: box (zb) 159 [.pointer (some ⟨jb, 0, none⟩)] :: jths F jb root pv av J.pinned J.anew (fths F A P ts)) := HG.add hq3 bq4 _ kq4 (fun b e => by rw [show b = zb + 1 + 1 + 1 + 1 from e]; rw [sq3]; exact Nat.le_refl _)
  have HW1 := Lib.hid hw1
  have HW2 := Lib.hid hw2
  have HW3 := Lib.hid hw3
  have HW4 := Lib.hid hw4
  have HW5 := Lib.hid hw5
  have HZB := Lib.hid hzb
  have hbx : JG w0 w5 A P V F jb root pv av J (box (zb + 1 + 1 + 1 + 1) 48 [.bool rw', .bool ru, .bool rx] :: box (zb + 1 + 1 + 1) 3 [.int .i64 dst] :: box (zb + 1 + 1) 3 [.int .i64 (i : Int)] :: box (zb + 1) 3 [.int .i64 p] :: box (zb) 159 [.pointer (some ⟨jb, 0, none⟩)] :: ts) := JG.boxes (bs := [box (zb + 1 + 1 + 1 + 1) 48 [.bool rw', .bool ru, .bool rx], box (zb + 1 + 1 + 1) 3 [.int .i64 dst], box (zb + 1 + 1) 3 [.int .i64 (i : Int)], box (zb + 1) 3 [.int .i64 p], box (zb) 159 [.pointer (some ⟨jb, 0, none⟩)]]) hq4
  have SZ := Lib.hid sq4
  clear bq0 kq0 sq0 hw1 hq0 bq1 kq1 sq1 hw2 hq1 bq2 kq2 sq2 hw3 hq2 bq3 kq3 sq3 hw4 hq3 bq4 kq4 sq4 hw5 hq4 hzb
  have hho := fun W (hW : Below w5.heap.size w5 W) => host_m (P := P) (hbx.past hW).m dst
  obtain ⟨hh, hhh⟩ : ∃ x, (ghost P dst).getD 0 = x := ⟨_, rfl⟩
  obtain ⟨hs, hhs⟩ : ∃ x, (ghost P dst).isSome = x := ⟨_, rfl⟩
  rw [hhh, hhs] at hho
  rw [hhh]
  have b00 := (show Blk w5 (zb) 159 [.pointer (some ⟨jb, 0, none⟩)] from Hold.at hbx 14 rfl).cell (k := 0) rfl
  have b0l := (show Blk w5 (zb) 159 [.pointer (some ⟨jb, 0, none⟩)] from Hold.at hbx 14 rfl).lt
  have b10 := (show Blk w5 (zb + 1) 3 [.int .i64 p] from Hold.at hbx 13 rfl).cell (k := 0) rfl
  have b1l := (show Blk w5 (zb + 1) 3 [.int .i64 p] from Hold.at hbx 13 rfl).lt
  have b20 := (show Blk w5 (zb + 1 + 1) 3 [.int .i64 (i : Int)] from Hold.at hbx 12 rfl).cell (k := 0) rfl
  have b2l := (show Blk w5 (zb + 1 + 1) 3 [.int .i64 (i : Int)] from Hold.at hbx 12 rfl).lt
  have b30 := (show Blk w5 (zb + 1 + 1 + 1) 3 [.int .i64 dst] from Hold.at hbx 11 rfl).cell (k := 0) rfl
  have b3l := (show Blk w5 (zb + 1 + 1 + 1) 3 [.int .i64 dst] from Hold.at hbx 11 rfl).lt
  have b40 := (show Blk w5 (zb + 1 + 1 + 1 + 1) 48 [.bool rw', .bool ru, .bool rx] from Hold.at hbx 10 rfl).cell (k := 0) rfl
  have b41 := (show Blk w5 (zb + 1 + 1 + 1 + 1) 48 [.bool rw', .bool ru, .bool rx] from Hold.at hbx 10 rfl).cell (k := 1) rfl
  have b42 := (show Blk w5 (zb + 1 + 1 + 1 + 1) 48 [.bool rw', .bool ru, .bool rx] from Hold.at hbx 10 rfl).cell (k := 2) rfl
  have b4l := (show Blk w5 (zb + 1 + 1 + 1 + 1) 48 [.bool rw', .bool ru, .bool rx] from Hold.at hbx 10 rfl).lt
  have HHo := Lib.hid hho
  have HBX := Lib.hid hbx
  clear hho hbx H hjl hhh hhs
  go_enter Tryz.func78, Tryz.ntmps78
  go_upto_region 1 with (fail)
  rw [HW1.out, HW2.out, HW3.out, HW4.out, HW5.out, HZB.out]
  have hjf := HBX.out
  have j0 := (show Blk w5 jb 161 (jcells F root pv av) from Hold.at hjf 5 rfl).cell (k := 0) rfl
  have f1 := (show Blk w5 F.fl 156 (fcells A F.gp) from Hold.at hjf 8 rfl).cell (k := 1) rfl
  have fl := (show Blk w5 F.fl 156 (fcells A F.gp) from Hold.at hjf 8 rfl).lt
  have jl := (show Blk w5 jb 161 (jcells F root pv av) from Hold.at hjf 5 rfl).lt
  clear hjf
  go_region_held3 (fun w' => w'.cell? ⟨jb, 0, none⟩ = some (.pointer (some ⟨F.fl, 0, none⟩)) ∧ w'.cell? ⟨F.fl, 1, none⟩ = some (.pointer (some ⟨F.gp, 0, none⟩)) ∧ w'.cell? ⟨zb, 0, none⟩ = some (.pointer (some ⟨jb, 0, none⟩)) ∧ w'.cell? ⟨zb + 1 + 1 + 1, 0, none⟩ = some (.int .i64 dst)) (go_keep) (first
    | (go_at_call 105; (with_reducible refine (HHo.out _ (Below.refl _ _).drew).mono ?_); rintro e W6 ⟨rfl, rfl⟩)
    | (go_at_call 105; (with_reducible refine (HHo.out (w5.alloc (.cells #[.int .i64 0] 3)).drew (bal w5 (.cells #[.int .i64 0] 3)).drew).mono ?_); rintro e W6 ⟨rfl, rfl⟩))
  all_goals
    have b6 := (bal w5 (.cells #[.int .i64 ((hh : Nat) : Int)] 3)).drew
    have k6 := (Blk.new w5 3 [.int .i64 ((hh : Nat) : Int)]).drew
    have hle := Nat.le_of_eq SZ.out
    obtain ⟨w6, hw6⟩ : ∃ W', (w5.alloc (.cells #[.int .i64 ((hh : Nat) : Int)] 3)).drew = W' := ⟨_, rfl⟩
    rw [show ((w5.alloc (.cells ([.int .i64 ((hh : Nat) : Int)] : List Value).toArray 3)).drew) = w6 from hw6, SZ.out] at k6
    rw [hw6] at b6
    have h6 : JG w0 w6 A P V F jb root pv av J (box (zb + 1 + 1 + 1 + 1 + 1) 3 [.int .i64 ((hh : Nat) : Int)] :: box (zb + 1 + 1 + 1 + 1) 48 [.bool rw', .bool ru, .bool rx] :: box (zb + 1 + 1 + 1) 3 [.int .i64 dst] :: box (zb + 1 + 1) 3 [.int .i64 (i : Int)] :: box (zb + 1) 3 [.int .i64 p] :: box (zb) 159 [.pointer (some ⟨jb, 0, none⟩)] :: ts) := JG.boxes (bs := [box (zb + 1 + 1 + 1 + 1 + 1) 3 [.int .i64 ((hh : Nat) : Int)]]) (HG.add HBX.out.hg b6 _ k6 (fun b e => by rw [show b = zb + 1 + 1 + 1 + 1 + 1 from e]; exact hle))
    have hly := lay_j h6 p i hi 2 dst rw' ru rx 135 #[.pointer (some ⟨zb, 0, none⟩), .pointer (some ⟨zb + 1, 0, none⟩), .pointer (some ⟨zb + 1 + 1, 0, none⟩), .pointer (some ⟨zb + 1 + 1 + 1, 0, none⟩), .pointer (some ⟨zb + 1 + 1 + 1 + 1 + 1, 0, none⟩), .pointer (some ⟨zb + 1 + 1 + 1 + 1, 0, none⟩)] (fun G => { G with s := (sleaf P.n G.s p (i : Int) dst ((hh : Nat) : Int) ⟨rw', ru, rx⟩).2 }) hl (enters_of Tryz.func135 (by kernel_rfl) rfl) (fun W V' G' h => leafq_j (J := { J with G := G' }) p i dst rw' ru rx hh h)
    clear b00 b0l b10 b1l b20 b2l b30 b3l b40 b41 b42 b4l
    have cb00 := (show Blk w6 (zb) 159 [.pointer (some ⟨jb, 0, none⟩)] from Hold.at h6 15 rfl).cell (k := 0) rfl
    have cb0l := (show Blk w6 (zb) 159 [.pointer (some ⟨jb, 0, none⟩)] from Hold.at h6 15 rfl).lt
    have cb10 := (show Blk w6 (zb + 1) 3 [.int .i64 p] from Hold.at h6 14 rfl).cell (k := 0) rfl
    have cb1l := (show Blk w6 (zb + 1) 3 [.int .i64 p] from Hold.at h6 14 rfl).lt
    have cb20 := (show Blk w6 (zb + 1 + 1) 3 [.int .i64 (i : Int)] from Hold.at h6 13 rfl).cell (k := 0) rfl
    have cb2l := (show Blk w6 (zb + 1 + 1) 3 [.int .i64 (i : Int)] from Hold.at h6 13 rfl).lt
    have cb30 := (show Blk w6 (zb + 1 + 1 + 1) 3 [.int .i64 dst] from Hold.at h6 12 rfl).cell (k := 0) rfl
    have cb3l := (show Blk w6 (zb + 1 + 1 + 1) 3 [.int .i64 dst] from Hold.at h6 12 rfl).lt
    have cb40 := (show Blk w6 (zb + 1 + 1 + 1 + 1) 48 [.bool rw', .bool ru, .bool rx] from Hold.at h6 11 rfl).cell (k := 0) rfl
    have cb41 := (show Blk w6 (zb + 1 + 1 + 1 + 1) 48 [.bool rw', .bool ru, .bool rx] from Hold.at h6 11 rfl).cell (k := 1) rfl
    have cb42 := (show Blk w6 (zb + 1 + 1 + 1 + 1) 48 [.bool rw', .bool ru, .bool rx] from Hold.at h6 11 rfl).cell (k := 2) rfl
    have cb4l := (show Blk w6 (zb + 1 + 1 + 1 + 1) 48 [.bool rw', .bool ru, .bool rx] from Hold.at h6 11 rfl).lt
    have cb50 := (show Blk w6 (zb + 1 + 1 + 1 + 1 + 1) 3 [.int .i64 ((hh : Nat) : Int)] from Hold.at h6 10 rfl).cell (k := 0) rfl
    have cb5l := (show Blk w6 (zb + 1 + 1 + 1 + 1 + 1) 3 [.int .i64 ((hh : Nat) : Int)] from Hold.at h6 10 rfl).lt
    have HL := Lib.hid hly
    rw [hw6, SZ.out]
    clear hly h6 k6 b6 hw6 j0 f1 fl jl hle
    go_wp2_with (go_at_call 132; (with_reducible refine HL.out.mono ?_); rintro e W7 ⟨⟨r7, rfl⟩, V7, av7, h7⟩; have HH7 := Lib.hid h7; clear h7)
    exact bodyPost_end (results_none rfl _ _ _) rfl ⟨⟨_, rfl⟩, V7, av7, JG.unbox (bs := [box (zb + 1 + 1 + 1 + 1 + 1) 3 [.int .i64 ((hh : Nat) : Int)], box (zb + 1 + 1 + 1 + 1) 48 [.bool rw', .bool ru, .bool rx], box (zb + 1 + 1 + 1) 3 [.int .i64 dst], box (zb + 1 + 1) 3 [.int .i64 (i : Int)], box (zb + 1) 3 [.int .i64 p], box (zb) 159 [.pointer (some ⟨jb, 0, none⟩)]]) HH7.out⟩
end Go.Proofs.YtglohconhbcchaaGreatDoor
