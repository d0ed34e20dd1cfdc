/- silhouetteref06.Code; silhouetteref08.Walk: what the document's walk finds is what the program's finds. -/
import Derived.Test.YtlldbfpccdmclaaDoorRefM
import Derived.Test.YtlldbfpccdmclaaDoorMeetR
import Derived.Test.YtlldbfpccdmclaaDoorWalk
import Derived.Deep.DeepCutAuto
import Derived.Outline
namespace Go.Proofs.YtlldbfpccdmclaaDoor
open Go.RowKit

theorem rcode_any (kind : Int) (user there bad : Bool) (n : Int) (hn : fcode kind user there bad = n) (w : World) :
    Calls Tryd.prog 50 #[.int .i64 kind, .bool user, .bool there, .bool bad] w fun e w' => e = .returned (.int .i64 n) ∧ w = w' := by
  subst hn
  by_cases h1 : kind = 1
  · subst h1
    cases user <;> cases there <;> cases bad <;>
    · go_enter Tryd.func50, Tryd.ntmps50
      go_wp2
      go_ret
      exact ⟨rfl, rfl⟩
  · by_cases h2 : kind = 2
    · subst h2
      cases user <;> cases there <;> cases bad <;>
      · go_enter Tryd.func50, Tryd.ntmps50
        go_wp2
        go_ret
        exact ⟨rfl, rfl⟩
    · have e1 : (kind == 1) = false := by simp [h1]
      have e2 : (kind == 2) = false := by simp [h2]
      cases user <;> cases there <;> cases bad <;>
      · go_enter Tryd.func50, Tryd.ntmps50
        go_wp2
        go_ret
        refine ⟨?_, rfl⟩
        simp only [fcode, if_neg h1, if_neg h2]
        rfl

section
variable {get : Int → Int → Option Nat} {frames : Nat} {root page kind gi : Int} {user : Bool} {k : Nat} {pre : List St} {s : St}
theorem wk_stop {a b : Int} (h : pre ++ stepsFrom get page (fcode kind user) (k + 1) gi = stepsFrom get page (fcode kind user) 3 root) (hs : stepAt get page (fcode kind user) (k + 1) gi = s) (he : s.er = some (a, b)) :
    out (wk get frames root page kind user) = (Path.none, a, b) := by
  have h1 := stepsFrom_end hs (by rw [he]; rfl)
  unfold wk
  rw [← h, h1, wkEnd_err rfl he]; rfl
theorem wk_end (h : pre ++ stepsFrom get page (fcode kind user) (k + 1) gi = stepsFrom get page (fcode kind user) 3 root) (hs : stepAt get page (fcode kind user) (k + 1) gi = s) (he : s.er = none) (hl : lastE s.e (k + 1) = true) :
    wk get frames root page kind user = fin frames page kind user ((foldP pre).step s) := by
  have h1 := stepsFrom_end hs (by rw [he, hl]; rfl)
  unfold wk
  rw [← h, h1, wkEnd_fin rfl he, foldP_snoc]
theorem wk_zero {q : List St} (h : pre ++ stepsFrom get page (fcode kind user) 0 gi = stepsFrom get page (fcode kind user) 3 root) (hq : pre = q ++ [s]) (he : s.er = none) :
    wk get frames root page kind user = fin frames page kind user (foldP pre) := by
  unfold wk
  rw [← h]
  simp only [stepsFrom, List.append_nil]
  exact wkEnd_fin hq he
theorem steps_next (h : pre ++ stepsFrom get page (fcode kind user) (k + 1) gi = stepsFrom get page (fcode kind user) 3 root) (hs : stepAt get page (fcode kind user) (k + 1) gi = s) (he : s.er = none) (hl : lastE s.e (k + 1) = false) :
    (pre ++ [s]) ++ stepsFrom get page (fcode kind user) k (s.e.f : Int) = stepsFrom get page (fcode kind user) 3 root := by
  rw [← h, stepsFrom_on hs (by rw [he, hl]; rfl)]; simp
theorem steps_last (h : pre ++ stepsFrom get page (fcode kind user) (0 + 1) gi = stepsFrom get page (fcode kind user) 3 root) (hs : stepAt get page (fcode kind user) (0 + 1) gi = s) (he : s.er = none) :
    (pre ++ [s]) ++ stepsFrom get page (fcode kind user) 0 (s.e.f : Int) = stepsFrom get page (fcode kind user) 3 root := by
  rw [← h, stepsFrom_end hs (by rw [he]; simp [lastE])]; simp [stepsFrom]
theorem out_fin_may {p : Path} (hm : may p.r kind user = false) : out (fin frames page kind user p) = (Path.none, 1, fcode kind user true false) := by
  unfold fin; rw [if_pos hm]; rfl
theorem out_fin_bus {p : Path} {G : Int} (hm : may p.r kind user = true) (hG : (if p.large then p.g + ix page 1 else p.g) = G) (h : (frames : Int) ≤ G) : out (fin frames page kind user p) = (Path.none, 3, 0) := by
  unfold fin; rw [if_neg (by rw [hm]; simp), if_pos (by rw [hG]; exact h)]; rfl
theorem out_fin_ok {p : Path} {G : Int} (hm : may p.r kind user = true) (hG : (if p.large then p.g + ix page 1 else p.g) = G) (h : ¬ (frames : Int) ≤ G) : out (fin frames page kind user p) = ({ p with g := G }, 0, 0) := by
  unfold fin; rw [if_neg (by rw [hm]; simp), if_neg (by rw [hG]; exact h), hG]; rfl
end

/-- what the document's walk holds at a round's head -/
structure RT (w : World) (p wb n : Nat) (hosts mem : List Nat) (pz pp : Nat) (cs : List Value) (ats : List (Int × Int)) (sl : Value) (W : World) : Prop where
  m : RM W p wb hosts n mem
  z : Blk W pz 31 [.slice none 0 0, .int .i64 0, .bool false, .bool false, .bool false, .bool false, .bool false]
  t : Blk W pp 31 cs
  o : W.ownsRow w.heap.size 40 2 sl ats.length (atCells ats)
  b : Below w.heap.size w W
  hz : w.heap.size ≤ pz
  hp : w.heap.size ≤ pp
  zp : pz ≠ pp
theorem sl_of {W : World} {base : Nat} {a : Option Addr} {c : Nat} {ats : List (Int × Int)} (h : W.ownsRow base 40 2 (.slice a ats.length c) ats.length (atCells ats)) : Sl W a ats := by
  obtain ⟨a', c', he, h'⟩ := Sl.of_row h
  cases he; exact h'
theorem own_past' {w w' : World} {base : Nat} {e : TypeId} {size : Nat} {v : Value} {n : Nat} {xs : List Value} (h : w.ownsRow base e size v n xs) (hb : Below w.heap.size w w') : w'.ownsRow base e size v n xs :=
  h.kept (grownBy_of_below hb) (by cases v.ownBlock <;> simp)
theorem RT.past {w : World} {p wb n : Nat} {hosts mem : List Nat} {pz pp : Nat} {cs : List Value} {ats : List (Int × Int)} {sl : Value} {W W' : World} (h : RT w p wb n hosts mem pz pp cs ats sl W) (hb : Below W.heap.size W W') : RT w p wb n hosts mem pz pp cs ats sl W' :=
  ⟨h.m.past hb, h.z.past hb, h.t.past hb, own_past' h.o hb, h.b.trans (hb.mono h.b.size), h.hz, h.hp, h.zp⟩
theorem RM.grownRow {W W' : World} {p wb n : Nat} {hosts mem : List Nat} (h : RM W p wb hosts n mem) {base size k : Nat} {v : Value} {ys : List Value} (ho : W.ownsRow base 40 size v k ys) (hg : W.grownBy W' v.ownBlock) : RM W' p wb hosts n mem := by
  obtain ⟨hp, mp, sb, cap, H, G⟩ := h
  exact ⟨hp, mp, sb, cap, ⟨H.hdr.grownRow ho (by decide) hg, H.row.grownRow ho (by decide) hg, H.len, H.small, H.bd⟩, ⟨G.hdr.grownRow ho (by decide) hg, G.gm.grownRow ho (by decide) hg, G.row.imp fun _ h => h.grownRow ho (by decide) hg, G.len, G.bd⟩⟩
theorem RM.setOther {W : World} {p wb n : Nat} {hosts mem : List Nat} (h : RM W p wb hosts n mem) {b : Nat} {T : TypeId} {xs : List Value} (hb : Blk W b T xs) (h1 : 134 ≠ T) (h2 : 36 ≠ T) (h3 : 132 ≠ T) (h4 : 136 ≠ T) (h5 : 3 ≠ T) (k : Nat) (v : Value) :
    RM (W.setCell ⟨b, k, none⟩ v) p wb hosts n mem := by
  obtain ⟨hp, mp, sb, cap, H, G⟩ := h
  exact ⟨hp, mp, sb, cap, ⟨H.hdr.other (H.hdr.ne hb h1) v, H.row.other (H.row.ne hb h2) v, H.len, H.small, H.bd⟩, ⟨G.hdr.other (G.hdr.ne hb h3) v, G.gm.other (G.gm.ne hb h4) v, G.row.imp fun _ h => h.other (h.ne hb h5) v, G.len, G.bd⟩⟩
theorem own_set {W : World} {base size k : Nat} {v : Value} {ys : List Value} (h : W.ownsRow base 40 size v k ys) {b : Nat} {T : TypeId} {xs : List Value} (hb : Blk W b T xs) (hT : T ≠ 40) (j : Nat) (x : Value) : (W.setCell ⟨b, j, none⟩ x).ownsRow base 40 size v k ys := by
  refine ownsRow_setCell_other h (fun e => ?_) _
  obtain ⟨c, fr, hc⟩ := ownRow_cells h _ e
  unfold Blk at hb; rw [hb] at hc; simp at hc; exact hT hc.2.1
theorem RT.set {w : World} {p wb n : Nat} {hosts mem : List Nat} {pz pp : Nat} {cs : List Value} {ats : List (Int × Int)} {sl : Value} {W : World} (h : RT w p wb n hosts mem pz pp cs ats sl W) (k : Nat) (v : Value) : RT w p wb n hosts mem pz pp (cs.set k v) ats sl (W.setCell ⟨pp, k, none⟩ v) :=
  ⟨h.m.setOther h.t (by decide) (by decide) (by decide) (by decide) (by decide) k v, h.z.other h.zp v, h.t.set k v, own_set h.o h.t (by decide) k v, h.b.setCell (p := ⟨pp, k, none⟩) h.hp v, h.hz, h.hp, h.zp⟩
theorem RT.app {w : World} {p wb n : Nat} {hosts mem : List Nat} {pz pp : Nat} {cs : List Value} {ats : List (Int × Int)} {sl : Value} {W W' : World} (h : RT w p wb n hosts mem pz pp cs ats sl W) {v' : Value} {g i : Int}
    (ho : W'.ownsRow w.heap.size 40 2 v' (ats.length + 1) (atCells ats ++ [.int .i64 g, .int .i64 i])) (hg : W.grownBy W' sl.ownBlock) : RT w p wb n hosts mem pz pp cs (ats ++ [(g, i)]) v' W' :=
  ⟨h.m.grownRow h.o hg, h.z.grownRow h.o (by decide) hg, h.t.grownRow h.o (by decide) hg, by rw [atCells_snoc]; simpa using ho, h.b.grown hg h.b.size (fun r e => (h.o.lt r e).1), h.hz, h.hp, h.zp⟩

/-- how the document's walk comes out -/
def WPost (w : World) (X : Path × Int × Int) (e : Ending) (w' : World) : Prop :=
  Below w.heap.size w w' ∧ ∃ a c, e = .returned (.tuple #[.agg #[.slice a X.1.ats.length c, .int .i64 X.1.g, .bool X.1.r.w, .bool X.1.r.u, .bool X.1.r.x, .bool X.1.large, .bool X.1.dirty], .int .i64 X.2.1, .int .i64 X.2.2]) ∧ Sl w' a X.1.ats
theorem balR (w : World) (o : Obj) : Below w.heap.size w (w.alloc o) := (Below.refl _ _).alloc (Nat.le_refl _) _
theorem stepR {w w' : World} {o : Obj} (h : Below (w.alloc o).heap.size (w.alloc o) w') : Below w.heap.size w w' := ((Below.refl _ w).alloc (Nat.le_refl _) o).trans (h.mono (by simp))

set_option maxRecDepth 100000 in
set_option maxHeartbeats 16000000 in
theorem rwalk_any (w : World) (p wb n : Nat) (hosts mem : List Nat) (M : RM w p wb hosts n mem) (root page kind : Int) (user : Bool) :
    Calls Tryd.prog 26 #[.pointer (some ⟨p, 0, none⟩), .int .i64 root, .int .i64 page, .int .i64 kind, .bool user] w (WPost w (out (wk (rd hosts mem) hosts.length root page kind user))) := by
  obtain ⟨X, hX⟩ : ∃ X, out (wk (rd hosts mem) hosts.length root page kind user) = X := ⟨_, rfl⟩
  rw [hX]
  obtain ⟨c00, h00⟩ : ∃ c, fcode kind user false false = c := ⟨_, rfl⟩
  obtain ⟨c10, h10⟩ : ∃ c, fcode kind user true false = c := ⟨_, rfl⟩
  obtain ⟨c11, h11⟩ : ∃ c, fcode kind user true true = c := ⟨_, rfl⟩
  have hC00 := rcode_any kind user false false c00 h00
  have hC10 := rcode_any kind user true false c10 h10
  have hC11 := rcode_any kind user true true c11 h11
  obtain ⟨nh, hn⟩ : ∃ n, hosts.length = n := ⟨_, rfl⟩
  have hfr : ∀ W, RM W p wb hosts n mem → Calls Tryd.prog 51 #[.pointer (some ⟨p, 0, none⟩)] W fun e w' => e = .returned (.int .i64 (nh : Int)) ∧ W = w' := fun W M => hn ▸ rmframes_any M
  obtain ⟨i0, hi, hz0, hz1, hz2⟩ := info_parts info_at
  have hbd := M.bd
  have HX := Lib.hid hX
  have hc00 := Lib.hid h00
  have hc10 := Lib.hid h10
  have hc11 := Lib.hid h11
  have HC00 := Lib.hid hC00
  have HC10 := Lib.hid hC10
  have HC11 := Lib.hid hC11
  have hnh := Lib.hid hn
  have HFr := Lib.hid hfr
  have H1 := Lib.hid hi
  have HZ0 := Lib.hid hz0
  have HZ1 := Lib.hid hz1
  have HZ2 := Lib.hid hz2
  have HBd := Lib.hid hbd
  have MM := Lib.hid M
  clear hX h00 h10 h11 hC00 hC10 hC11 hn hfr hi hz0 hz1 hz2 hbd M
  go_enter Tryd.func26, Tryd.ntmps26
  go_wp2_with (go_at_call 15; (with_reducible refine (rall_any _).mono ?_); rintro e W1 ⟨rfl, b1⟩)
  have Z1 := (Blk.new w 31 [.slice none 0 0, .int .i64 0, .bool false, .bool false, .bool false, .bool false, .bool false]).past b1
  have B1 := stepR b1
  have S0 : RT w p wb n hosts mem w.heap.size W1.heap.size [.slice none 0 0, .int .i64 0, .bool true, .bool true, .bool true, .bool false, .bool false] [] (.slice none 0 0) (W1.alloc (.cells #[.slice none 0 0, .int .i64 0, .bool true, .bool true, .bool true, .bool false, .bool false] 31)) :=
    ⟨(MM.out.past B1).past (balR _ _), Z1.alloc _, Blk.new W1 31 [.slice none 0 0, .int .i64 0, .bool true, .bool true, .bool true, .bool false, .bool false], World.ownsRow_nil _ _ _ _, B1.alloc B1.size _, Nat.le_refl _, B1.size, by have := Z1.lt; omega⟩
  obtain ⟨pz, hpz⟩ : ∃ x, w.heap.size = x := ⟨_, rfl⟩
  obtain ⟨pp, hpp⟩ : ∃ x, W1.heap.size = x := ⟨_, rfl⟩
  obtain ⟨WN, hWN⟩ : ∃ W, W1.alloc (.cells #[.slice none 0 0, .int .i64 0, .bool true, .bool true, .bool true, .bool false, .bool false] 31) = W := ⟨_, rfl⟩
  rw [hWN, hpz, hpp] at S0
  rw [hWN, hpz, hpp]
  clear hWN Z1 B1 b1 hpz hpp MM
  go_loopw [14, 15] (fun g lv wr => ∃ (k : Nat) (gi li : Int) (pre : List St) (sl : Value), k ≤ 3 ∧ (k : Int) = li ∧ lv = .int .i64 li ∧ g = .int .i64 gi ∧ pre ++ stepsFrom (rd hosts mem) page (fcode kind user) k gi = stepsFrom (rd hosts mem) page (fcode kind user) 3 root ∧ pre.length + k = 3 ∧
      (pre = [] ∨ ∃ q s, pre = q ++ [s] ∧ s.er = none ∧ s.e.ps = false ∧ gi = (s.e.f : Int)) ∧
      RT w p wb n hosts mem pz pp [sl, .int .i64 0, .bool (foldP pre).r.w, .bool (foldP pre).r.u, .bool (foldP pre).r.x, .bool false, .bool (foldP pre).dirty] (foldP pre).ats sl wr)
    (fun _ lv _ => (intOf lv).toNat)
  case atStart => exact ⟨3, root, 3, [], _, by omega, rfl, rfl, rfl, rfl, rfl, .inl rfl, S0⟩
  case round =>
    obtain ⟨k, gi, li, pre, sl, hk, hli, rfl, rfl, hpre, hlen, hlast, S⟩ := hrel
    clear S0
    obtain ⟨a, c, rfl, hs0⟩ := Sl.of_row S.o
    clear hs0
    have hal := foldP_len pre
    cases k with
    | zero =>
      obtain rfl : li = 0 := by omega
      rcases hlast with rfl | ⟨q, s, hq, hse, hsp, rfl⟩
      · simp at hlen
      · have hwk := wk_zero (frames := hosts.length) hpre hq hse
        have hlg : (foldP pre).large = false := by rw [hq, foldP_snoc]; exact hsp
        have hpg : (foldP pre).g = (s.e.f : Int) := by rw [hq, foldP_snoc]; rfl
        have hG0 : (0 : Int) ≤ (s.e.f : Int) := by omega
        obtain ⟨G, hGG⟩ : ∃ G, (s.e.f : Int) = G := ⟨_, rfl⟩
        obtain ⟨⟨ats, pg, ⟨pw, pu, px⟩, plg, pd⟩, hP⟩ : ∃ P, foldP pre = P := ⟨_, rfl⟩
        rw [hP] at S hwk hlg hpg
        rw [hGG] at hpg hG0 ⊢
        dsimp only at S hlg hpg
        subst hlg hpg
        have hG : (if (⟨ats, pg, ⟨pw, pu, px⟩, false, pd⟩ : Path).large = true then (⟨ats, pg, ⟨pw, pu, px⟩, false, pd⟩ : Path).g + ix page 1 else (⟨ats, pg, ⟨pw, pu, px⟩, false, pd⟩ : Path).g) = pg := rfl
        clear hpre hlen hq hse hsp hP hGG hal hk hli
        obtain ⟨mb, hmb⟩ : ∃ b, may ⟨pw, pu, px⟩ kind user = b := ⟨_, rfl⟩
        have hmy := fun W => rmay_any W ⟨pw, pu, px⟩ kind user
        simp only [hmb] at hmy
        have t2 := S.t.cell (k := 2) rfl
        have t3 := S.t.cell (k := 3) rfl
        have t4 := S.t.cell (k := 4) rfl
        have HMy := Lib.hid hmy
        have hzp := S.zp
        have SS := Lib.hid S
        clear hmy S
        cases mb with
        | false =>
          have hx : X = (Path.none, 1, c10) := by rw [← HX.out, hwk, out_fin_may hmb, hc10.out]
          have Hx := Lib.hid hx
          clear hx hwk hmb hG
          go_wp2_with (first
            | (go_at_call 22; (with_reducible refine (HMy.out _).mono ?_); rintro e W8 ⟨rfl, b8⟩; have S8 := SS.out.past b8; have z0 := S8.z.cell (k := 0) rfl; have z1 := S8.z.cell (k := 1) rfl; have z2 := S8.z.cell (k := 2) rfl; have z3 := S8.z.cell (k := 3) rfl; have z4 := S8.z.cell (k := 4) rfl; have z5 := S8.z.cell (k := 5) rfl; have z6 := S8.z.cell (k := 6) rfl; have zf := fun j => S8.z.free j; have lz := S8.z.lt; have y0 := S8.t.cell (k := 0) rfl; have y1 := S8.t.cell (k := 1) rfl; have y2 := S8.t.cell (k := 2) rfl; have y3 := S8.t.cell (k := 3) rfl; have y4 := S8.t.cell (k := 4) rfl; have y5 := S8.t.cell (k := 5) rfl; have y6 := S8.t.cell (k := 6) rfl; have yf := fun j => S8.t.free j; have ly := S8.t.lt)
            | (go_at_call 50; (with_reducible refine (HC10.out _).mono ?_); rintro e W3 ⟨rfl, rfl⟩))
          obtain ⟨R, BB, _⟩ := seven (.slice none 0 0) (.int .i64 0) (.bool false) (.bool false) (.bool false) (.bool false) (.bool false) S8.z S8.b S8.hz (Sl.nil _)
          have r0 := R.cell (k := 0) rfl
          have r1 := R.cell (k := 1) rfl
          have r2 := R.cell (k := 2) rfl
          have r3 := R.cell (k := 3) rfl
          have r4 := R.cell (k := 4) rfl
          have r5 := R.cell (k := 5) rfl
          have r6 := R.cell (k := 6) rfl
          refine bodyPost_ret (v := .tuple #[.agg #[.slice none 0 0, .int .i64 0, .bool false, .bool false, .bool false, .bool false, .bool false], .int .i64 1, .int .i64 c10]) ?_ rfl ?_
          rotate_left
          · rw [Hx.out]; exact ⟨BB, none, 0, rfl, Sl.nil _⟩
          · simp [results, Tryd.results26, go_sem, r0, r1, r2, r3, r4, r5, r6]

        | true =>
          by_cases hfr : (nh : Int) ≤ pg
          · have hx : X = (Path.none, 3, 0) := by rw [← HX.out, hwk, out_fin_bus hmb hG (by rw [hnh.out]; exact hfr)]
            have Hx := Lib.hid hx
            clear hx hwk hmb hG
            go_wp2_with (first
              | (go_at_call 22; (with_reducible refine (HMy.out _).mono ?_); rintro e W8 ⟨rfl, b8⟩; have S8 := SS.out.past b8; have z0 := S8.z.cell (k := 0) rfl; have z1 := S8.z.cell (k := 1) rfl; have z2 := S8.z.cell (k := 2) rfl; have z3 := S8.z.cell (k := 3) rfl; have z4 := S8.z.cell (k := 4) rfl; have z5 := S8.z.cell (k := 5) rfl; have z6 := S8.z.cell (k := 6) rfl; have zf := fun j => S8.z.free j; have lz := S8.z.lt; have y0 := S8.t.cell (k := 0) rfl; have y1 := S8.t.cell (k := 1) rfl; have y2 := S8.t.cell (k := 2) rfl; have y3 := S8.t.cell (k := 3) rfl; have y4 := S8.t.cell (k := 4) rfl; have y5 := S8.t.cell (k := 5) rfl; have y6 := S8.t.cell (k := 6) rfl; have yf := fun j => S8.t.free j; have ly := S8.t.lt)
              | (go_at_call 51; (with_reducible refine (HFr.out _ S8.m).mono ?_); rintro e W9 ⟨rfl, rfl⟩))
            obtain ⟨R, BB, _⟩ := seven (.slice none 0 0) (.int .i64 0) (.bool false) (.bool false) (.bool false) (.bool false) (.bool false) S8.z S8.b S8.hz (Sl.nil _)
            have r0 := R.cell (k := 0) rfl
            have r1 := R.cell (k := 1) rfl
            have r2 := R.cell (k := 2) rfl
            have r3 := R.cell (k := 3) rfl
            have r4 := R.cell (k := 4) rfl
            have r5 := R.cell (k := 5) rfl
            have r6 := R.cell (k := 6) rfl
            refine bodyPost_ret (v := .tuple #[.agg #[.slice none 0 0, .int .i64 0, .bool false, .bool false, .bool false, .bool false, .bool false], .int .i64 3, .int .i64 0]) ?_ rfl ?_
            rotate_left
            · rw [Hx.out]; exact ⟨BB, none, 0, rfl, Sl.nil _⟩
            · simp [results, Tryd.results26, go_sem, r0, r1, r2, r3, r4, r5, r6]

          · have hx : X = (⟨ats, pg, ⟨pw, pu, px⟩, false, pd⟩, 0, 0) := by rw [← HX.out, hwk, out_fin_ok hmb hG (by rw [hnh.out]; omega)]
            have hfr' : decide ((nh : Int) ≤ pg) = false := by rw [decide_eq_false_iff_not]; exact hfr
            have Hx := Lib.hid hx
            clear hx hwk hmb hG hfr
            go_wp2_with (first
              | (go_at_call 22; (with_reducible refine (HMy.out _).mono ?_); rintro e W8 ⟨rfl, b8⟩; have S8 := SS.out.past b8; have z0 := S8.z.cell (k := 0) rfl; have z1 := S8.z.cell (k := 1) rfl; have z2 := S8.z.cell (k := 2) rfl; have z3 := S8.z.cell (k := 3) rfl; have z4 := S8.z.cell (k := 4) rfl; have z5 := S8.z.cell (k := 5) rfl; have z6 := S8.z.cell (k := 6) rfl; have zf := fun j => S8.z.free j; have lz := S8.z.lt; have y0 := S8.t.cell (k := 0) rfl; have y1 := S8.t.cell (k := 1) rfl; have y2 := S8.t.cell (k := 2) rfl; have y3 := S8.t.cell (k := 3) rfl; have y4 := S8.t.cell (k := 4) rfl; have y5 := S8.t.cell (k := 5) rfl; have y6 := S8.t.cell (k := 6) rfl; have yf := fun j => S8.t.free j; have ly := S8.t.lt)
              | (go_at_call 51; (with_reducible refine (HFr.out _ S8.m).mono ?_); rintro e W9 ⟨rfl, rfl⟩))
            have T9 := S8.t.set 1 (.int .i64 (pg))
            have Z9 := S8.z.other (a := ⟨pp, 1, none⟩) S8.zp (.int .i64 (pg))
            have B9 := S8.b.setCell (p := ⟨pp, 1, none⟩) S8.hp (.int .i64 (pg))
            have L9 := sl_of S8.o
            obtain ⟨R, BB, SL⟩ := seven (.slice a (ats).length c) (.int .i64 (pg)) (.bool pw) (.bool pu) (.bool px) (.bool false) (.bool pd) Z9 B9 S8.hz (L9.set S8.t (by decide) 1 (.int .i64 (pg)))
            have r0 := R.cell (k := 0) rfl
            have r1 := R.cell (k := 1) rfl
            have r2 := R.cell (k := 2) rfl
            have r3 := R.cell (k := 3) rfl
            have r4 := R.cell (k := 4) rfl
            have r5 := R.cell (k := 5) rfl
            have r6 := R.cell (k := 6) rfl
            refine bodyPost_ret (v := .tuple #[.agg #[.slice a (ats).length c, .int .i64 (pg), .bool pw, .bool pu, .bool px, .bool false, .bool pd], .int .i64 0, .int .i64 0]) ?_ rfl ?_
            rotate_left
            · rw [Hx.out]; exact ⟨BB, a, c, rfl, SL⟩
            · clear T9 Z9 B9 L9 R BB SL
              simp [results, Tryd.results26, go_sem, r0, r1, r2, r3, r4, r5, r6]
    | succ k =>
      obtain ⟨I, hI⟩ : ∃ I, ix page li = I := ⟨_, rfl⟩
      obtain ⟨o, ho⟩ : ∃ o, rd hosts mem gi I = o := ⟨_, rfl⟩
      have hl1 : 1 ≤ li := by omega
      have hl3 : li ≤ 3 := by omega
      have hix := fun W => ridx_any W page li
      simp only [hI] at hix
      have hget := fun W (M : RM W p wb hosts n mem) => rmget_any M gi I o ho
      have ho2 : rd hosts mem gi (ix page ((k + 1 : Nat) : Int)) = o := by rw [hli, hI]; exact ho
      have hv : ∀ v, o = some v → v < 2 ^ 64 := fun v hv => by have := rd_lt (hosts := hosts) HBd.out gi I; rw [ho, hv] at this; exact this
      have hIx := Lib.hid hI
      have HI := Lib.hid hix
      have HPre := Lib.hid hpre
      have HLen := Lib.hid hlen
      have HLi := Lib.hid hli
      have HLa := Lib.hid hlast
      have HO2 := Lib.hid ho2
      have HAl := Lib.hid hal
      have hal2 : (foldP pre).ats.length ≤ 2 := by omega
      obtain ⟨⟨ats, pg, ⟨pw, pu, px⟩, plg, pd⟩, hP⟩ : ∃ P, foldP pre = P := ⟨_, rfl⟩
      rw [hP] at S hal2
      dsimp only at S hal2
      have HP := Lib.hid hP
      have RR := Lib.hid S
      have zp := S.zp
      have z0 := S.z.cell (k := 0) rfl
      have z1 := S.z.cell (k := 1) rfl
      have z2 := S.z.cell (k := 2) rfl
      have z3 := S.z.cell (k := 3) rfl
      have z4 := S.z.cell (k := 4) rfl
      have z5 := S.z.cell (k := 5) rfl
      have z6 := S.z.cell (k := 6) rfl
      have zf := fun j => S.z.free j
      have lz := S.z.lt
      clear hI hix hpre hlen hli hlast ho2 ho hal hP S
      cases o with
      | none =>
        have HGt := Lib.hid hget
        have hx : X = (Path.none, 3, 0) := by rw [← HX.out]; exact wk_stop HPre.out (stepAt_eq HO2.out rfl) rfl
        have Hx := Lib.hid hx
        clear hget hx
        go_wp2_with (first
          | (go_at_call 18; (with_reducible refine (HI.out _).mono ?_); rintro e W1 ⟨rfl, rfl⟩)
          | (go_at_call 49; (with_reducible refine (HGt.out _ RR.out.m).mono ?_); rintro e W2 ⟨rfl, rfl⟩))
        obtain ⟨R, BB, _⟩ := seven (.slice none 0 0) (.int .i64 0) (.bool false) (.bool false) (.bool false) (.bool false) (.bool false) RR.out.z RR.out.b RR.out.hz (Sl.nil _)
        have r0 := R.cell (k := 0) rfl
        have r1 := R.cell (k := 1) rfl
        have r2 := R.cell (k := 2) rfl
        have r3 := R.cell (k := 3) rfl
        have r4 := R.cell (k := 4) rfl
        have r5 := R.cell (k := 5) rfl
        have r6 := R.cell (k := 6) rfl
        refine bodyPost_ret (v := .tuple #[.agg #[.slice none 0 0, .int .i64 0, .bool false, .bool false, .bool false, .bool false, .bool false], .int .i64 3, .int .i64 0]) ?_ rfl ?_
        rotate_left
        · rw [Hx.out]; exact ⟨BB, none, 0, rfl, Sl.nil _⟩
        · simp [results, Tryd.results26, go_sem, r0, r1, r2, r3, r4, r5, r6]
      | some v =>
        have hv' := hv v rfl
        clear hv
        obtain ⟨⟨ep, ew, eu, ea, ed, eps, enx, ebad, ef⟩, he⟩ : ∃ e, pte v = e := ⟨_, rfl⟩
        have hpg := fun W => refget_any W v _ he hv'
        dsimp only at hpg
        simp only [Option.getD_some, Option.isSome_some] at hget
        obtain ⟨s, hst, hser, hse, hsg, hsi⟩ : ∃ s, stepAt (rd hosts mem) page (fcode kind user) (k + 1) gi = s ∧ s.er = erOf (some v) ⟨ep, ew, eu, ea, ed, eps, enx, ebad, ef⟩ (k + 1) (fcode kind user) ∧ s.e = ⟨ep, ew, eu, ea, ed, eps, enx, ebad, ef⟩ ∧ s.g = gi ∧ s.i = I :=
          ⟨_, stepAt_eq HO2.out (show pte (Option.getD (some v) 0) = _ from he), rfl, rfl, rfl, by rw [← hIx.out, ← HLi.out]⟩
        have hef : ef < 1048576 := by have := pte_f v; rw [he] at this; exact this
        have hef0 : (0 : Int) ≤ (ef : Int) := by omega
        have hef1 : (ef : Int) < 1048576 := by omega
        have HGt := Lib.hid hget
        have HPg := Lib.hid hpg
        have HSt := Lib.hid hst
        have HEr := Lib.hid hser
        have HSe := Lib.hid hse
        have HSg := Lib.hid hsg
        have HSi := Lib.hid hsi
        clear hget hpg hst hser hse hsg hsi he hv'
        cases ep with
        | false =>
          have hx : X = (Path.none, 1, c00) := by rw [← HX.out, ← hc00.out]; exact wk_stop HPre.out HSt.out (HEr.out.trans (erOf_np rfl))
          have Hx := Lib.hid hx
          clear hx
          go_upto_region 12 with (first
            | (go_at_call 18; (with_reducible refine (HI.out _).mono ?_); rintro e W1 ⟨rfl, rfl⟩)
            | (go_at_call 49; (with_reducible refine (HGt.out _ RR.out.m).mono ?_); rintro e W2 ⟨rfl, rfl⟩)
            | (go_at_call 17; (with_reducible refine (HPg.out _).mono ?_); rintro e W5 ⟨rfl, b5⟩; have S5 := RR.out.past b5; have x0 := S5.t.cell (k := 0) rfl; have lp := S5.t.lt; have z0 := S5.z.cell (k := 0) rfl; have z1 := S5.z.cell (k := 1) rfl; have z2 := S5.z.cell (k := 2) rfl; have z3 := S5.z.cell (k := 3) rfl; have z4 := S5.z.cell (k := 4) rfl; have z5 := S5.z.cell (k := 5) rfl; have z6 := S5.z.cell (k := 6) rfl; have zf := fun j => S5.z.free j; have lz := S5.z.lt))
          have SY := S5.past (balR W5 (.cells #[.bool false, .bool ew, .bool eu, .bool ea, .bool ed, .bool eps, .bool enx, .bool ebad, .int .i64 (ef : Int)] 42))
          obtain ⟨W6, hW6⟩ : ∃ W, W5.alloc (.cells #[.bool false, .bool ew, .bool eu, .bool ea, .bool ed, .bool eps, .bool enx, .bool ebad, .int .i64 (ef : Int)] 42) = W := ⟨_, rfl⟩
          rw [hW6] at SY
          rw [hW6]
          clear hW6 S5 x0 lp z0 z1 z2 z3 z4 z5 z6 zf lz
          have z0 := SY.z.cell (k := 0) rfl
          have z1 := SY.z.cell (k := 1) rfl
          have z2 := SY.z.cell (k := 2) rfl
          have z3 := SY.z.cell (k := 3) rfl
          have z4 := SY.z.cell (k := 4) rfl
          have z5 := SY.z.cell (k := 5) rfl
          have z6 := SY.z.cell (k := 6) rfl
          have zf := fun j => SY.z.free j
          have lz := SY.z.lt
          go_wp2_with (first
            | (go_at_call 50; (with_reducible refine (HC00.out _).mono ?_); rintro e W3 ⟨rfl, rfl⟩))
          obtain ⟨R, BB, _⟩ := seven (.slice none 0 0) (.int .i64 0) (.bool false) (.bool false) (.bool false) (.bool false) (.bool false) SY.z SY.b SY.hz (Sl.nil _)
          have r0 := R.cell (k := 0) rfl
          have r1 := R.cell (k := 1) rfl
          have r2 := R.cell (k := 2) rfl
          have r3 := R.cell (k := 3) rfl
          have r4 := R.cell (k := 4) rfl
          have r5 := R.cell (k := 5) rfl
          have r6 := R.cell (k := 6) rfl
          refine bodyPost_ret (v := .tuple #[.agg #[.slice none 0 0, .int .i64 0, .bool false, .bool false, .bool false, .bool false, .bool false], .int .i64 1, .int .i64 c00]) ?_ rfl ?_
          rotate_left
          · rw [Hx.out]; exact ⟨BB, none, 0, rfl, Sl.nil _⟩
          · simp [results, Tryd.results26, go_sem, r0, r1, r2, r3, r4, r5, r6]
        | true =>
          have hcs : (ebad = true) ∨ (ebad = false ∧ eps = true ∧ li ≠ 2) ∨ (ebad = false ∧ eps = true ∧ li = 2 ∧ ¬ ef % 8 = 0) ∨ (ebad = false ∧ eps = true ∧ li = 2 ∧ ef % 8 = 0) ∨ (ebad = false ∧ eps = false) := by
            cases ebad <;> cases eps <;> by_cases h2 : li = 2 <;> by_cases h3 : ef % 8 = 0 <;> simp [h2, h3]
          rcases hcs with rfl | ⟨rfl, rfl, h2⟩ | ⟨rfl, rfl, rfl, h3⟩ | ⟨rfl, rfl, rfl, h3⟩ | ⟨rfl, rfl⟩
          · have hx : X = (Path.none, 1, c11) := by rw [← HX.out, ← hc11.out]; exact wk_stop HPre.out HSt.out (HEr.out.trans (erOf_bad rfl (by simp [badE])))
            have Hx := Lib.hid hx
            clear hx
            go_upto_region 14 with (first
              | (go_at_call 18; (with_reducible refine (HI.out _).mono ?_); rintro e W1 ⟨rfl, rfl⟩)
              | (go_at_call 49; (with_reducible refine (HGt.out _ RR.out.m).mono ?_); rintro e W2 ⟨rfl, rfl⟩)
              | (go_at_call 17; (with_reducible refine (HPg.out _).mono ?_); rintro e W5 ⟨rfl, b5⟩; have S5 := RR.out.past b5; have x0 := S5.t.cell (k := 0) rfl; have lp := S5.t.lt; have z0 := S5.z.cell (k := 0) rfl; have z1 := S5.z.cell (k := 1) rfl; have z2 := S5.z.cell (k := 2) rfl; have z3 := S5.z.cell (k := 3) rfl; have z4 := S5.z.cell (k := 4) rfl; have z5 := S5.z.cell (k := 5) rfl; have z6 := S5.z.cell (k := 6) rfl; have zf := fun j => S5.z.free j; have lz := S5.z.lt))
            have SY := S5.past (balR W5 (.cells #[.bool true, .bool ew, .bool eu, .bool ea, .bool ed, .bool eps, .bool enx, .bool true, .int .i64 (ef : Int)] 42))
            obtain ⟨W6, hW6⟩ : ∃ W, W5.alloc (.cells #[.bool true, .bool ew, .bool eu, .bool ea, .bool ed, .bool eps, .bool enx, .bool true, .int .i64 (ef : Int)] 42) = W := ⟨_, rfl⟩
            rw [hW6] at SY
            rw [hW6]
            clear hW6 S5 x0 lp z0 z1 z2 z3 z4 z5 z6 zf lz
            have z0 := SY.z.cell (k := 0) rfl
            have z1 := SY.z.cell (k := 1) rfl
            have z2 := SY.z.cell (k := 2) rfl
            have z3 := SY.z.cell (k := 3) rfl
            have z4 := SY.z.cell (k := 4) rfl
            have z5 := SY.z.cell (k := 5) rfl
            have z6 := SY.z.cell (k := 6) rfl
            have zf := fun j => SY.z.free j
            have lz := SY.z.lt
            go_wp2_with (first
              | (go_at_call 50; (with_reducible refine (HC11.out _).mono ?_); rintro e W3 ⟨rfl, rfl⟩))
            obtain ⟨R, BB, _⟩ := seven (.slice none 0 0) (.int .i64 0) (.bool false) (.bool false) (.bool false) (.bool false) (.bool false) SY.z SY.b SY.hz (Sl.nil _)
            have r0 := R.cell (k := 0) rfl
            have r1 := R.cell (k := 1) rfl
            have r2 := R.cell (k := 2) rfl
            have r3 := R.cell (k := 3) rfl
            have r4 := R.cell (k := 4) rfl
            have r5 := R.cell (k := 5) rfl
            have r6 := R.cell (k := 6) rfl
            refine bodyPost_ret (v := .tuple #[.agg #[.slice none 0 0, .int .i64 0, .bool false, .bool false, .bool false, .bool false, .bool false], .int .i64 1, .int .i64 c11]) ?_ rfl ?_
            rotate_left
            · rw [Hx.out]; exact ⟨BB, none, 0, rfl, Sl.nil _⟩
            · simp [results, Tryd.results26, go_sem, r0, r1, r2, r3, r4, r5, r6]
          · have hx : X = (Path.none, 1, c11) := by
              rw [← HX.out, ← hc11.out]; refine wk_stop HPre.out HSt.out (HEr.out.trans (erOf_bad rfl ?_))
              · have hk2 : k + 1 ≠ 2 := by have := HLi.out; omega
                simp [badE]; left; omega
            have Hx := Lib.hid hx
            have g1 : (li == 2) = false := beq_eq_false_iff_ne.2 h2
            have g2 : (li != 2) = true := bne_iff_ne.2 h2
            clear hx h2
            go_upto_region 14 with (first
              | (go_at_call 18; (with_reducible refine (HI.out _).mono ?_); rintro e W1 ⟨rfl, rfl⟩)
              | (go_at_call 49; (with_reducible refine (HGt.out _ RR.out.m).mono ?_); rintro e W2 ⟨rfl, rfl⟩)
              | (go_at_call 17; (with_reducible refine (HPg.out _).mono ?_); rintro e W5 ⟨rfl, b5⟩; have S5 := RR.out.past b5; have x0 := S5.t.cell (k := 0) rfl; have lp := S5.t.lt; have z0 := S5.z.cell (k := 0) rfl; have z1 := S5.z.cell (k := 1) rfl; have z2 := S5.z.cell (k := 2) rfl; have z3 := S5.z.cell (k := 3) rfl; have z4 := S5.z.cell (k := 4) rfl; have z5 := S5.z.cell (k := 5) rfl; have z6 := S5.z.cell (k := 6) rfl; have zf := fun j => S5.z.free j; have lz := S5.z.lt))
            have SY := S5.past (balR W5 (.cells #[.bool true, .bool ew, .bool eu, .bool ea, .bool ed, .bool true, .bool enx, .bool false, .int .i64 (ef : Int)] 42))
            obtain ⟨W6, hW6⟩ : ∃ W, W5.alloc (.cells #[.bool true, .bool ew, .bool eu, .bool ea, .bool ed, .bool true, .bool enx, .bool false, .int .i64 (ef : Int)] 42) = W := ⟨_, rfl⟩
            rw [hW6] at SY
            rw [hW6]
            clear hW6 S5 x0 lp z0 z1 z2 z3 z4 z5 z6 zf lz
            have z0 := SY.z.cell (k := 0) rfl
            have z1 := SY.z.cell (k := 1) rfl
            have z2 := SY.z.cell (k := 2) rfl
            have z3 := SY.z.cell (k := 3) rfl
            have z4 := SY.z.cell (k := 4) rfl
            have z5 := SY.z.cell (k := 5) rfl
            have z6 := SY.z.cell (k := 6) rfl
            have zf := fun j => SY.z.free j
            have lz := SY.z.lt
            go_wp2_with (first
              | (go_at_call 50; (with_reducible refine (HC11.out _).mono ?_); rintro e W3 ⟨rfl, rfl⟩))
            obtain ⟨R, BB, _⟩ := seven (.slice none 0 0) (.int .i64 0) (.bool false) (.bool false) (.bool false) (.bool false) (.bool false) SY.z SY.b SY.hz (Sl.nil _)
            have r0 := R.cell (k := 0) rfl
            have r1 := R.cell (k := 1) rfl
            have r2 := R.cell (k := 2) rfl
            have r3 := R.cell (k := 3) rfl
            have r4 := R.cell (k := 4) rfl
            have r5 := R.cell (k := 5) rfl
            have r6 := R.cell (k := 6) rfl
            refine bodyPost_ret (v := .tuple #[.agg #[.slice none 0 0, .int .i64 0, .bool false, .bool false, .bool false, .bool false, .bool false], .int .i64 1, .int .i64 c11]) ?_ rfl ?_
            rotate_left
            · rw [Hx.out]; exact ⟨BB, none, 0, rfl, Sl.nil _⟩
            · simp [results, Tryd.results26, go_sem, r0, r1, r2, r3, r4, r5, r6]
          · have hx : X = (Path.none, 1, c11) := by
              rw [← HX.out, ← hc11.out]; refine wk_stop HPre.out HSt.out (HEr.out.trans (erOf_bad rfl ?_))
              · simp [badE, h3]
            have Hx := Lib.hid hx
            have g1 : ((ef : Int) % 8 == 0) = false := beq_eq_false_iff_ne.2 (by omega)
            have g2 : ((ef : Int) % 8 != 0) = true := bne_iff_ne.2 (by omega)
            clear hx h3
            go_upto_region 14 with (first
              | (go_at_call 18; (with_reducible refine (HI.out _).mono ?_); rintro e W1 ⟨rfl, rfl⟩)
              | (go_at_call 49; (with_reducible refine (HGt.out _ RR.out.m).mono ?_); rintro e W2 ⟨rfl, rfl⟩)
              | (go_at_call 17; (with_reducible refine (HPg.out _).mono ?_); rintro e W5 ⟨rfl, b5⟩; have S5 := RR.out.past b5; have x0 := S5.t.cell (k := 0) rfl; have lp := S5.t.lt; have z0 := S5.z.cell (k := 0) rfl; have z1 := S5.z.cell (k := 1) rfl; have z2 := S5.z.cell (k := 2) rfl; have z3 := S5.z.cell (k := 3) rfl; have z4 := S5.z.cell (k := 4) rfl; have z5 := S5.z.cell (k := 5) rfl; have z6 := S5.z.cell (k := 6) rfl; have zf := fun j => S5.z.free j; have lz := S5.z.lt))
            have SY := S5.past (balR W5 (.cells #[.bool true, .bool ew, .bool eu, .bool ea, .bool ed, .bool true, .bool enx, .bool false, .int .i64 (ef : Int)] 42))
            obtain ⟨W6, hW6⟩ : ∃ W, W5.alloc (.cells #[.bool true, .bool ew, .bool eu, .bool ea, .bool ed, .bool true, .bool enx, .bool false, .int .i64 (ef : Int)] 42) = W := ⟨_, rfl⟩
            rw [hW6] at SY
            rw [hW6]
            clear hW6 S5 x0 lp z0 z1 z2 z3 z4 z5 z6 zf lz
            have z0 := SY.z.cell (k := 0) rfl
            have z1 := SY.z.cell (k := 1) rfl
            have z2 := SY.z.cell (k := 2) rfl
            have z3 := SY.z.cell (k := 3) rfl
            have z4 := SY.z.cell (k := 4) rfl
            have z5 := SY.z.cell (k := 5) rfl
            have z6 := SY.z.cell (k := 6) rfl
            have zf := fun j => SY.z.free j
            have lz := SY.z.lt
            go_wp2_with (first
              | (go_at_call 50; (with_reducible refine (HC11.out _).mono ?_); rintro e W3 ⟨rfl, rfl⟩))
            obtain ⟨R, BB, _⟩ := seven (.slice none 0 0) (.int .i64 0) (.bool false) (.bool false) (.bool false) (.bool false) (.bool false) SY.z SY.b SY.hz (Sl.nil _)
            have r0 := R.cell (k := 0) rfl
            have r1 := R.cell (k := 1) rfl
            have r2 := R.cell (k := 2) rfl
            have r3 := R.cell (k := 3) rfl
            have r4 := R.cell (k := 4) rfl
            have r5 := R.cell (k := 5) rfl
            have r6 := R.cell (k := 6) rfl
            refine bodyPost_ret (v := .tuple #[.agg #[.slice none 0 0, .int .i64 0, .bool false, .bool false, .bool false, .bool false, .bool false], .int .i64 1, .int .i64 c11]) ?_ rfl ?_
            rotate_left
            · rw [Hx.out]; exact ⟨BB, none, 0, rfl, Sl.nil _⟩
            · simp [results, Tryd.results26, go_sem, r0, r1, r2, r3, r4, r5, r6]
          · -- a large page's entry
            have hk1 : k = 1 := by have := HLi.out; omega
            have hwk := wk_end (frames := hosts.length) HPre.out HSt.out (HEr.out.trans (erOf_ok rfl (by subst hk1; simp [badE, h3]))) (by rw [HSe.out]; simp [lastE])
            have g1 : ((ef : Int) % 8 == 0) = true := beq_iff_eq.2 (by omega)
            have g2 : ((ef : Int) % 8 != 0) = false := by rw [bne_eq_false_iff_eq]; omega
            rw [HP.out] at hwk
            have HWk := Lib.hid hwk
            clear hwk h3
            clear z0 z1 z2 z3 z4 z5 z6 zf lz
            go_upto_region 15 with (first
              | (go_at_call 18; (with_reducible refine (HI.out _).mono ?_); rintro e W1 ⟨rfl, rfl⟩)
              | (go_at_call 49; (with_reducible refine (HGt.out _ RR.out.m).mono ?_); rintro e W2 ⟨rfl, rfl⟩)
              | (go_at_call 17; (with_reducible refine (HPg.out _).mono ?_); rintro e W5 ⟨rfl, b5⟩; have S5 := RR.out.past b5; have x0 := S5.t.cell (k := 0) rfl; have lp := S5.t.lt; have z0 := S5.z.cell (k := 0) rfl; have z1 := S5.z.cell (k := 1) rfl; have z2 := S5.z.cell (k := 2) rfl; have z3 := S5.z.cell (k := 3) rfl; have z4 := S5.z.cell (k := 4) rfl; have z5 := S5.z.cell (k := 5) rfl; have z6 := S5.z.cell (k := 6) rfl; have zf := fun j => S5.z.free j; have lz := S5.z.lt))
            have S6 := S5.past (balR W5 (.cells #[.bool true, .bool ew, .bool eu, .bool ea, .bool ed, .bool true, .bool enx, .bool false, .int .i64 (ef : Int)] 42))
            have E6 := Blk.new W5 42 [.bool true, .bool ew, .bool eu, .bool ea, .bool ed, .bool true, .bool enx, .bool false, .int .i64 (ef : Int)]
            obtain ⟨W6, hW6⟩ : ∃ W, W5.alloc (.cells #[.bool true, .bool ew, .bool eu, .bool ea, .bool ed, .bool true, .bool enx, .bool false, .int .i64 (ef : Int)] 42) = W := ⟨_, rfl⟩
            obtain ⟨te, hte⟩ : ∃ t, W5.heap.size = t := ⟨_, rfl⟩
            rw [hW6] at S6 E6
            rw [hte] at E6
            rw [hte, hW6]
            clear hW6 hte S5 x0 lp z0 z1 z2 z3 z4 z5 z6 zf lz b5
            have x0 := S6.t.cell (k := 0) rfl
            have lp := S6.t.lt
            have hsz5 := S6.b.size
            have HNw := Lib.hid (World.news_of_block (cs := #[.int .i64 gi, .int .i64 I]) (t := 40) (fr := (0, 0)) (heap_alloc_new W6 (.cells #[.int .i64 gi, .int .i64 I] 40)))
            have SX := Lib.hid S6
            have EX := Lib.hid E6
            clear S6 E6
            go_wp2_with (first
              | (at_builtin; refine wpList_append_own _ rfl _ _ 27 rfl w.heap.size 40 i0 _ 2 16 Tryd.underlying27 H1.out HZ0.out HZ1.out HZ2.out rfl (by decide) _ _ _ rfl (SX.out.o.alloc _) ⟨W6.heap.size, 0, none⟩ 1 1 [.int .i64 gi, .int .i64 I] rfl rfl HNw.out (by simp [Value.oneCell']) (by unfold maxLen; omega) (by omega) (by simp; omega) ?_; intro v' w3 hown' hgrow3 hnil3; obtain ⟨g', cap', rfl⟩ := ownsRow_succ hown'; have T3 := (SX.out.past (balR _ _)).app hown' hgrow3; have E3 := (EX.out.alloc (.cells #[.int .i64 gi, .int .i64 I] 40)).grownRow (SX.out.o.alloc (.cells #[.int .i64 gi, .int .i64 I] 40)) (by decide) hgrow3; clear hown' hgrow3 hnil3 x0 lp; have x0 := T3.t.cell (k := 0) rfl; have xf := T3.t.free 0; have HT3 := Lib.hid T3; have HE3 := Lib.hid E3; clear T3 E3))
            clear x0 xf
            have hvl : ats.length + 1 = (ats ++ [(gi, I)]).length := by simp
            rw [hvl] at HT3 ⊢
            obtain ⟨a2, ha2⟩ : ∃ a, some (⟨g', 0, none⟩ : Addr) = a := ⟨_, rfl⟩
            rw [ha2] at HT3 ⊢
            clear ha2 hvl
            obtain ⟨v', hvv⟩ : ∃ v, Value.slice a2 (ats ++ [(gi, I)]).length cap' = v := ⟨_, rfl⟩
            rw [hvv] at HT3 ⊢
            have T4 := HT3.out.set 0 v'
            have htp : te ≠ pp := HE3.out.ne HT3.out.t (by decide)
            have E4 := HE3.out.other (a := ⟨pp, 0, none⟩) htp v'
            obtain ⟨W4, hW4⟩ : ∃ W, w3.setCell ⟨pp, 0, none⟩ v' = W := ⟨_, rfl⟩
            rw [hW4] at T4 E4
            rw [hW4]
            dsimp only [List.set_cons_zero] at T4
            clear hW4 HT3 HE3 HNw SX EX
            have r2 := T4.t.cell (k := 2) rfl
            have r3 := T4.t.cell (k := 3) rfl
            have r4 := T4.t.cell (k := 4) rfl
            have s0 := E4.cell (k := 0) rfl
            have s1 := E4.cell (k := 1) rfl
            have s2 := E4.cell (k := 2) rfl
            have s3 := E4.cell (k := 3) rfl
            have s4 := E4.cell (k := 4) rfl
            have s5 := E4.cell (k := 5) rfl
            have s6 := E4.cell (k := 6) rfl
            have s7 := E4.cell (k := 7) rfl
            have s8 := E4.cell (k := 8) rfl
            have lr := T4.t.lt
            have le := E4.lt
            have HT4 := Lib.hid T4
            have HE4 := Lib.hid E4
            clear T4 E4
            have hof := fun W => rof_any W ⟨true, ew, eu, ea, ed, true, enx, false, ef⟩
            have hmt := fun W b cap hb => rmeet_any W b cap ⟨pw, pu, px⟩ (rtOf ⟨true, ew, eu, ea, ed, true, enx, false, ef⟩) hb
            obtain ⟨rr, hrr⟩ : ∃ r, Rt.meet ⟨pw, pu, px⟩ (rtOf ⟨true, ew, eu, ea, ed, true, enx, false, ef⟩) = r := ⟨_, rfl⟩
            simp only [hrr] at hmt
            dsimp only [rtOf] at hmt hof
            have HOf := Lib.hid hof
            have HMe := Lib.hid hmt
            have HRr := Lib.hid hrr
            clear hof hmt hrr
            refine wp_region_last (fun w' => w'.cell? ⟨pp, 2, none⟩ = some (.bool pw) ∧ w'.cell? ⟨pp, 3, none⟩ = some (.bool pu) ∧ w'.cell? ⟨pp, 4, none⟩ = some (.bool px) ∧ w'.cell? ⟨te, 0, none⟩ = some (.bool true) ∧ w'.cell? ⟨te, 1, none⟩ = some (.bool ew) ∧ w'.cell? ⟨te, 2, none⟩ = some (.bool eu) ∧ w'.cell? ⟨te, 3, none⟩ = some (.bool ea) ∧ w'.cell? ⟨te, 4, none⟩ = some (.bool ed) ∧ w'.cell? ⟨te, 5, none⟩ = some (.bool true) ∧ w'.cell? ⟨te, 6, none⟩ = some (.bool enx) ∧ w'.cell? ⟨te, 7, none⟩ = some (.bool false) ∧ w'.cell? ⟨te, 8, none⟩ = some (.int .i64 (ef : Int))) 7 (by kernel_rfl) (by go_keep) (fun hHeld => ?_)
            refine' wpAnyL_take (i := 0) (v := _) rfl (by kernel_rfl) (by kernel_rfl) (by kernel_rfl) (by kernel_rfl) (fun _ _ _ h => h) (Or.inl ⟨by with_unfolding_all rfl, ?_⟩) (by assumption) ?_
            rotate_left
            focus (intro w hSw; (try dsimp only at hSw); go_simp; try (with_reducible rfl))
            try simp only [List.getElem_toArray, List.getElem_cons_zero, Act.put, List.setIfInBounds_toArray, List.set_cons_zero, List.set_cons_succ]
            refine' wpAnyL_take (i := 1) (v := _) rfl (by kernel_rfl) (by kernel_rfl) (by kernel_rfl) (by kernel_rfl) (fun _ _ _ h => h) (Or.inl ⟨by with_unfolding_all rfl, ?_⟩) (by assumption) ?_
            rotate_left
            focus (intro w hSw; (try dsimp only at hSw); go_simp; try (with_reducible rfl))
            try simp only [List.getElem_toArray, List.getElem_cons_zero, List.getElem_cons_succ, Act.put, List.setIfInBounds_toArray, List.set_cons_zero, List.set_cons_succ]
            refine' wpAnyL_take (i := 2) (v := _) rfl (by kernel_rfl) (by kernel_rfl) (by kernel_rfl) (by kernel_rfl) (fun _ _ _ h => h) (Or.inl ⟨by with_unfolding_all rfl, ?_⟩) (by assumption) ?_
            rotate_left
            focus (intro w hSw; (try dsimp only at hSw); go_simp; try (with_reducible rfl))
            try simp only [List.getElem_toArray, List.getElem_cons_zero, List.getElem_cons_succ, Act.put, List.setIfInBounds_toArray, List.set_cons_zero, List.set_cons_succ]
            refine wpAnyL_one (i := 3) (by kernel_rfl) rfl (fun K hK => ?_)
            rw [if_pos (by with_unfolding_all rfl)]
            go_simp
            go_at_call 20
            (with_reducible refine (HOf.out _).mono ?_)
            rintro r W9 ⟨rfl, b9⟩
            have q9 := (below_of_drewN W4 1).trans b9
            clear r2 r3 r4 s0 s1 s2 s3 s4 s5 s6 s7 s8 lr le hHeld
            have xT := HT4.out.past q9
            have xE := HE4.out.past q9
            have xr2 := xT.t.cell (k := 2) rfl
            have xr3 := xT.t.cell (k := 3) rfl
            have xr4 := xT.t.cell (k := 4) rfl
            have xs0 := xE.cell (k := 0) rfl
            have xs1 := xE.cell (k := 1) rfl
            have xs2 := xE.cell (k := 2) rfl
            have xs3 := xE.cell (k := 3) rfl
            have xs4 := xE.cell (k := 4) rfl
            have xs5 := xE.cell (k := 5) rfl
            have xs6 := xE.cell (k := 6) rfl
            have xs7 := xE.cell (k := 7) rfl
            have xs8 := xE.cell (k := 8) rfl
            have xlr := xT.t.lt
            have xle := xE.lt
            refine hK.out _ _ (fun _ => by (try dsimp only); go_keep) (fun _ => ?_)
            clear hK K
            try simp only [List.getElem_toArray, List.getElem_cons_zero, List.getElem_cons_succ, Act.put, List.setIfInBounds_toArray, List.set_cons_zero, List.set_cons_succ]
            refine wpAnyL_one (i := 4) (by kernel_rfl) rfl (fun K hK => ?_)
            rw [if_pos (by with_unfolding_all rfl)]
            go_simp
            refine hK.out _ _ (fun _ => by (try dsimp only); go_keep) (fun _ => ?_)
            clear hK K
            try simp only [List.getElem_toArray, List.getElem_cons_zero, List.getElem_cons_succ, Act.put, List.setIfInBounds_toArray, List.set_cons_zero, List.set_cons_succ]
            refine wpAnyL_one (i := 5) (by kernel_rfl) rfl (fun K hK => ?_)
            rw [if_pos (by with_unfolding_all rfl)]
            go_simp
            go_at_call 21
            refine (HMe.out _ W9.heap.size 2 (Blk.new W9 29 [.bool pw, .bool pu, .bool px, .bool ew, .bool eu, .bool (!enx)])).mono ?_
            rintro r W10 ⟨rfl, b10⟩
            have q10 := q9.trans ((stepR b10).mono q9.size)
            clear xr2 xr3 xr4 xs0 xs1 xs2 xs3 xs4 xs5 xs6 xs7 xs8 xlr xle
            have uT := HT4.out.past q10
            have uE := HE4.out.past q10
            have ur2 := uT.t.cell (k := 2) rfl
            have ur3 := uT.t.cell (k := 3) rfl
            have ur4 := uT.t.cell (k := 4) rfl
            have us0 := uE.cell (k := 0) rfl
            have us1 := uE.cell (k := 1) rfl
            have us2 := uE.cell (k := 2) rfl
            have us3 := uE.cell (k := 3) rfl
            have us4 := uE.cell (k := 4) rfl
            have us5 := uE.cell (k := 5) rfl
            have us6 := uE.cell (k := 6) rfl
            have us7 := uE.cell (k := 7) rfl
            have us8 := uE.cell (k := 8) rfl
            have ulr := uT.t.lt
            have ule := uE.lt
            have uf := fun j => uT.t.free j
            refine hK.out _ _ (fun _ => by (try dsimp only); go_keep) (fun _ => ?_)
            clear hK K
            try simp only [List.getElem_toArray, List.getElem_cons_zero, List.getElem_cons_succ, Act.put, List.setIfInBounds_toArray, List.set_cons_zero, List.set_cons_succ]
            refine wpAnyL_one (i := 6) (by kernel_rfl) rfl (fun K hK => ?_)
            rw [if_pos (by with_unfolding_all rfl)]
            go_simp
            refine hK.out _ _ (fun _ => by (try dsimp only); go_keep) (fun _ => ?_)
            clear hK K
            try simp only [List.getElem_toArray, List.getElem_cons_zero, List.getElem_cons_succ, Act.put, List.setIfInBounds_toArray, List.set_cons_zero, List.set_cons_succ]
            refine wpAnyL_one (i := 7) (by kernel_rfl) rfl (fun K hK => ?_)
            rw [if_pos (by with_unfolding_all rfl)]
            go_simp
            refine hK.out _ _ (fun h => absurd rfl h) (fun _ => ?_)
            clear hK K
            refine wpAnyL_done (by kernel_rfl) ?_
            have TA := ((uT.set 2 (.bool rr.w)).set 3 (.bool rr.u)).set 4 (.bool rr.x)
            have EA := ((uE.other (a := ⟨pp, 2, none⟩) htp (.bool rr.w)).other (a := ⟨pp, 3, none⟩) htp (.bool rr.u)).other (a := ⟨pp, 4, none⟩) htp (.bool rr.x)
            obtain ⟨WA, hWA⟩ : ∃ W, ((W10.setCell ⟨pp, 2, none⟩ (.bool rr.w)).setCell ⟨pp, 3, none⟩ (.bool rr.u)).setCell ⟨pp, 4, none⟩ (.bool rr.x) = W := ⟨_, rfl⟩
            rw [hWA] at TA EA
            rw [hWA]
            dsimp only [List.set_cons_zero, List.set_cons_succ] at TA
            clear hWA ur2 ur3 ur4 us0 us1 us2 us3 us4 us5 us6 us7 us8 ulr ule uf uT uE xT xE HT4 HE4
            subst hvv
            have HT := Lib.hid TA
            have HE := Lib.hid EA
            clear TA EA
            have hJ := fun W => ridx_any W page 1
            have hJb := ix_bd page 1
            obtain ⟨J, hJJ⟩ : ∃ J, ix page 1 = J := ⟨_, rfl⟩
            rw [hJJ] at hJb
            simp only [hJJ] at hJ
            have HJ := Lib.hid hJ
            have HJJ := Lib.hid hJJ
            obtain ⟨hJ0, hJ8⟩ := hJb
            clear hJ hJJ
            have hwk := HWk.out
            simp only [Path.step, HSe.out, HSg.out, HSi.out, HRr.out] at hwk
            obtain ⟨qw, qu, qx⟩ := rr
            have S := (HT.out.set 6 (.bool ed)).set 5 (.bool true)
            dsimp only [List.set_cons_zero, List.set_cons_succ] at S
            have hG : (if (⟨ats ++ [(gi, I)], (ef : Int), ⟨qw, qu, qx⟩, true, ed⟩ : Path).large = true then (⟨ats ++ [(gi, I)], (ef : Int), ⟨qw, qu, qx⟩, true, ed⟩ : Path).g + ix page 1 else (⟨ats ++ [(gi, I)], (ef : Int), ⟨qw, qu, qx⟩, true, ed⟩ : Path).g) = (ef : Int) + J := by rw [HJJ.out]; rfl
            have hG0 : (0 : Int) ≤ (ef : Int) + J := by omega
            have e4 := HE.out.cell (k := 4) rfl
            have e5 := HE.out.cell (k := 5) rfl
            have e8 := HE.out.cell (k := 8) rfl
            have t5 := HT.out.t.cell (k := 5) rfl
            have t6 := HT.out.t.cell (k := 6) rfl
            have tf := fun j => HT.out.t.free j
            have le := HE.out.lt
            have lt := HT.out.t.lt
            have HG := Lib.hid hG
            have HS := Lib.hid S
            have HWk := Lib.hid hwk
            clear hG S hwk
            go_upto_region 22 with (first
              | (go_at_call 18; (with_reducible refine (HJ.out _).mono ?_); rintro e W1 ⟨rfl, rfl⟩))
            have S := HS.out
            have hwk := HWk.out
            obtain ⟨WB, hWB⟩ : ∃ W, (WA.setCell ⟨pp, 6, none⟩ (.bool ed)).setCell ⟨pp, 5, none⟩ (.bool true) = W := ⟨_, rfl⟩
            obtain ⟨G, hGG⟩ : ∃ G, (ef : Int) + J = G := ⟨_, rfl⟩
            obtain ⟨ats2, hats⟩ : ∃ l, ats ++ [(gi, I)] = l := ⟨_, rfl⟩
            rw [hWB, hats] at S
            rw [hats] at hwk
            have hG : (if (⟨ats2, (ef : Int), ⟨qw, qu, qx⟩, true, ed⟩ : Path).large = true then (⟨ats2, (ef : Int), ⟨qw, qu, qx⟩, true, ed⟩ : Path).g + ix page 1 else (⟨ats2, (ef : Int), ⟨qw, qu, qx⟩, true, ed⟩ : Path).g) = G := by rw [← hats]; exact HG.out.trans hGG
            rw [hGG] at hG0
            rw [hWB, hGG]
            clear hWB hGG hats HG HS HWk e4 e5 e8 t5 t6 tf le lt HT HE g1 g2 hk1 hk hef hef0 hef1 hl1 hl3 hJ0 hJ8 hal2 zp htp hsz5 b9 q9 b10 q10 RR HSe HSg HSi HEr HSt HPre HLi HLen HLa HO2 HI HGt HPg HJ HJJ HOf HMe HRr HP HAl hIx
            obtain ⟨mb, hmb⟩ : ∃ b, may ⟨qw, qu, qx⟩ kind user = b := ⟨_, rfl⟩
            have hmy := fun W => rmay_any W ⟨qw, qu, qx⟩ kind user
            simp only [hmb] at hmy
            have t2 := S.t.cell (k := 2) rfl
            have t3 := S.t.cell (k := 3) rfl
            have t4 := S.t.cell (k := 4) rfl
            have HMy := Lib.hid hmy
            have hzp := S.zp
            have SS := Lib.hid S
            clear hmy S
            cases mb with
            | false =>
              have hx : X = (Path.none, 1, c10) := by rw [← HX.out, hwk, out_fin_may hmb, hc10.out]
              have Hx := Lib.hid hx
              clear hx hwk hmb hG
              go_wp2_with (first
                | (go_at_call 22; (with_reducible refine (HMy.out _).mono ?_); rintro e W8 ⟨rfl, b8⟩; have S8 := SS.out.past b8; have z0 := S8.z.cell (k := 0) rfl; have z1 := S8.z.cell (k := 1) rfl; have z2 := S8.z.cell (k := 2) rfl; have z3 := S8.z.cell (k := 3) rfl; have z4 := S8.z.cell (k := 4) rfl; have z5 := S8.z.cell (k := 5) rfl; have z6 := S8.z.cell (k := 6) rfl; have zf := fun j => S8.z.free j; have lz := S8.z.lt; have y0 := S8.t.cell (k := 0) rfl; have y1 := S8.t.cell (k := 1) rfl; have y2 := S8.t.cell (k := 2) rfl; have y3 := S8.t.cell (k := 3) rfl; have y4 := S8.t.cell (k := 4) rfl; have y5 := S8.t.cell (k := 5) rfl; have y6 := S8.t.cell (k := 6) rfl; have yf := fun j => S8.t.free j; have ly := S8.t.lt)
                | (go_at_call 50; (with_reducible refine (HC10.out _).mono ?_); rintro e W3 ⟨rfl, rfl⟩))
              obtain ⟨R, BB, _⟩ := seven (.slice none 0 0) (.int .i64 0) (.bool false) (.bool false) (.bool false) (.bool false) (.bool false) S8.z S8.b S8.hz (Sl.nil _)
              have r0 := R.cell (k := 0) rfl
              have r1 := R.cell (k := 1) rfl
              have r2 := R.cell (k := 2) rfl
              have r3 := R.cell (k := 3) rfl
              have r4 := R.cell (k := 4) rfl
              have r5 := R.cell (k := 5) rfl
              have r6 := R.cell (k := 6) rfl
              refine bodyPost_ret (v := .tuple #[.agg #[.slice none 0 0, .int .i64 0, .bool false, .bool false, .bool false, .bool false, .bool false], .int .i64 1, .int .i64 c10]) ?_ rfl ?_
              rotate_left
              · rw [Hx.out]; exact ⟨BB, none, 0, rfl, Sl.nil _⟩
              · simp [results, Tryd.results26, go_sem, r0, r1, r2, r3, r4, r5, r6]

            | true =>
              by_cases hfr : (nh : Int) ≤ G
              · have hx : X = (Path.none, 3, 0) := by rw [← HX.out, hwk, out_fin_bus hmb hG (by rw [hnh.out]; exact hfr)]
                have Hx := Lib.hid hx
                clear hx hwk hmb hG
                go_wp2_with (first
                  | (go_at_call 22; (with_reducible refine (HMy.out _).mono ?_); rintro e W8 ⟨rfl, b8⟩; have S8 := SS.out.past b8; have z0 := S8.z.cell (k := 0) rfl; have z1 := S8.z.cell (k := 1) rfl; have z2 := S8.z.cell (k := 2) rfl; have z3 := S8.z.cell (k := 3) rfl; have z4 := S8.z.cell (k := 4) rfl; have z5 := S8.z.cell (k := 5) rfl; have z6 := S8.z.cell (k := 6) rfl; have zf := fun j => S8.z.free j; have lz := S8.z.lt; have y0 := S8.t.cell (k := 0) rfl; have y1 := S8.t.cell (k := 1) rfl; have y2 := S8.t.cell (k := 2) rfl; have y3 := S8.t.cell (k := 3) rfl; have y4 := S8.t.cell (k := 4) rfl; have y5 := S8.t.cell (k := 5) rfl; have y6 := S8.t.cell (k := 6) rfl; have yf := fun j => S8.t.free j; have ly := S8.t.lt)
                  | (go_at_call 51; (with_reducible refine (HFr.out _ S8.m).mono ?_); rintro e W9 ⟨rfl, rfl⟩))
                obtain ⟨R, BB, _⟩ := seven (.slice none 0 0) (.int .i64 0) (.bool false) (.bool false) (.bool false) (.bool false) (.bool false) S8.z S8.b S8.hz (Sl.nil _)
                have r0 := R.cell (k := 0) rfl
                have r1 := R.cell (k := 1) rfl
                have r2 := R.cell (k := 2) rfl
                have r3 := R.cell (k := 3) rfl
                have r4 := R.cell (k := 4) rfl
                have r5 := R.cell (k := 5) rfl
                have r6 := R.cell (k := 6) rfl
                refine bodyPost_ret (v := .tuple #[.agg #[.slice none 0 0, .int .i64 0, .bool false, .bool false, .bool false, .bool false, .bool false], .int .i64 3, .int .i64 0]) ?_ rfl ?_
                rotate_left
                · rw [Hx.out]; exact ⟨BB, none, 0, rfl, Sl.nil _⟩
                · simp [results, Tryd.results26, go_sem, r0, r1, r2, r3, r4, r5, r6]

              · have hx : X = (⟨ats2, G, ⟨qw, qu, qx⟩, true, ed⟩, 0, 0) := by rw [← HX.out, hwk, out_fin_ok hmb hG (by rw [hnh.out]; omega)]
                have hfr' : decide ((nh : Int) ≤ G) = false := by rw [decide_eq_false_iff_not]; exact hfr
                have Hx := Lib.hid hx
                clear hx hwk hmb hG hfr
                go_wp2_with (first
                  | (go_at_call 22; (with_reducible refine (HMy.out _).mono ?_); rintro e W8 ⟨rfl, b8⟩; have S8 := SS.out.past b8; have z0 := S8.z.cell (k := 0) rfl; have z1 := S8.z.cell (k := 1) rfl; have z2 := S8.z.cell (k := 2) rfl; have z3 := S8.z.cell (k := 3) rfl; have z4 := S8.z.cell (k := 4) rfl; have z5 := S8.z.cell (k := 5) rfl; have z6 := S8.z.cell (k := 6) rfl; have zf := fun j => S8.z.free j; have lz := S8.z.lt; have y0 := S8.t.cell (k := 0) rfl; have y1 := S8.t.cell (k := 1) rfl; have y2 := S8.t.cell (k := 2) rfl; have y3 := S8.t.cell (k := 3) rfl; have y4 := S8.t.cell (k := 4) rfl; have y5 := S8.t.cell (k := 5) rfl; have y6 := S8.t.cell (k := 6) rfl; have yf := fun j => S8.t.free j; have ly := S8.t.lt)
                  | (go_at_call 51; (with_reducible refine (HFr.out _ S8.m).mono ?_); rintro e W9 ⟨rfl, rfl⟩))
                have T9 := S8.t.set 1 (.int .i64 (G))
                have Z9 := S8.z.other (a := ⟨pp, 1, none⟩) S8.zp (.int .i64 (G))
                have B9 := S8.b.setCell (p := ⟨pp, 1, none⟩) S8.hp (.int .i64 (G))
                have L9 := sl_of S8.o
                obtain ⟨R, BB, SL⟩ := seven (.slice a2 (ats2).length cap') (.int .i64 (G)) (.bool qw) (.bool qu) (.bool qx) (.bool true) (.bool ed) Z9 B9 S8.hz (L9.set S8.t (by decide) 1 (.int .i64 (G)))
                have r0 := R.cell (k := 0) rfl
                have r1 := R.cell (k := 1) rfl
                have r2 := R.cell (k := 2) rfl
                have r3 := R.cell (k := 3) rfl
                have r4 := R.cell (k := 4) rfl
                have r5 := R.cell (k := 5) rfl
                have r6 := R.cell (k := 6) rfl
                refine bodyPost_ret (v := .tuple #[.agg #[.slice a2 (ats2).length cap', .int .i64 (G), .bool qw, .bool qu, .bool qx, .bool true, .bool ed], .int .i64 0, .int .i64 0]) ?_ rfl ?_
                rotate_left
                · rw [Hx.out]; exact ⟨BB, a2, cap', rfl, SL⟩
                · clear T9 Z9 B9 L9 R BB SL
                  simp [results, Tryd.results26, go_sem, r0, r1, r2, r3, r4, r5, r6]
          · -- another one
            have hbe : badE ⟨true, ew, eu, ea, ed, false, enx, false, ef⟩ (k + 1) = false := by simp [badE]
            have hers : s.er = none := HEr.out.trans (erOf_ok rfl hbe)
            have hnx : (pre ++ [s]) ++ stepsFrom (rd hosts mem) page (fcode kind user) k (s.e.f : Int) = stepsFrom (rd hosts mem) page (fcode kind user) 3 root := by
              cases k with
              | zero => exact steps_last HPre.out HSt.out hers
              | succ k => exact steps_next HPre.out HSt.out hers (by rw [HSe.out]; simp [lastE])
            rw [HSe.out] at hnx
            dsimp only at hnx
            have HNx := Lib.hid hnx
            have HEr2 := Lib.hid hers
            clear hnx hers hbe
            clear z0 z1 z2 z3 z4 z5 z6 zf lz
            go_upto_region 15 with (first
              | (go_at_call 18; (with_reducible refine (HI.out _).mono ?_); rintro e W1 ⟨rfl, rfl⟩)
              | (go_at_call 49; (with_reducible refine (HGt.out _ RR.out.m).mono ?_); rintro e W2 ⟨rfl, rfl⟩)
              | (go_at_call 17; (with_reducible refine (HPg.out _).mono ?_); rintro e W5 ⟨rfl, b5⟩; have S5 := RR.out.past b5; have x0 := S5.t.cell (k := 0) rfl; have lp := S5.t.lt; have z0 := S5.z.cell (k := 0) rfl; have z1 := S5.z.cell (k := 1) rfl; have z2 := S5.z.cell (k := 2) rfl; have z3 := S5.z.cell (k := 3) rfl; have z4 := S5.z.cell (k := 4) rfl; have z5 := S5.z.cell (k := 5) rfl; have z6 := S5.z.cell (k := 6) rfl; have zf := fun j => S5.z.free j; have lz := S5.z.lt))
            have S6 := S5.past (balR W5 (.cells #[.bool true, .bool ew, .bool eu, .bool ea, .bool ed, .bool false, .bool enx, .bool false, .int .i64 (ef : Int)] 42))
            have E6 := Blk.new W5 42 [.bool true, .bool ew, .bool eu, .bool ea, .bool ed, .bool false, .bool enx, .bool false, .int .i64 (ef : Int)]
            obtain ⟨W6, hW6⟩ : ∃ W, W5.alloc (.cells #[.bool true, .bool ew, .bool eu, .bool ea, .bool ed, .bool false, .bool enx, .bool false, .int .i64 (ef : Int)] 42) = W := ⟨_, rfl⟩
            obtain ⟨te, hte⟩ : ∃ t, W5.heap.size = t := ⟨_, rfl⟩
            rw [hW6] at S6 E6
            rw [hte] at E6
            rw [hte, hW6]
            clear hW6 hte S5 x0 lp z0 z1 z2 z3 z4 z5 z6 zf lz b5
            have x0 := S6.t.cell (k := 0) rfl
            have lp := S6.t.lt
            have hsz5 := S6.b.size
            have HNw := Lib.hid (World.news_of_block (cs := #[.int .i64 gi, .int .i64 I]) (t := 40) (fr := (0, 0)) (heap_alloc_new W6 (.cells #[.int .i64 gi, .int .i64 I] 40)))
            have SX := Lib.hid S6
            have EX := Lib.hid E6
            clear S6 E6
            go_wp2_with (first
              | (at_builtin; refine wpList_append_own _ rfl _ _ 27 rfl w.heap.size 40 i0 _ 2 16 Tryd.underlying27 H1.out HZ0.out HZ1.out HZ2.out rfl (by decide) _ _ _ rfl (SX.out.o.alloc _) ⟨W6.heap.size, 0, none⟩ 1 1 [.int .i64 gi, .int .i64 I] rfl rfl HNw.out (by simp [Value.oneCell']) (by unfold maxLen; omega) (by omega) (by simp; omega) ?_; intro v' w3 hown' hgrow3 hnil3; obtain ⟨g', cap', rfl⟩ := ownsRow_succ hown'; have T3 := (SX.out.past (balR _ _)).app hown' hgrow3; have E3 := (EX.out.alloc (.cells #[.int .i64 gi, .int .i64 I] 40)).grownRow (SX.out.o.alloc (.cells #[.int .i64 gi, .int .i64 I] 40)) (by decide) hgrow3; clear hown' hgrow3 hnil3 x0 lp; have x0 := T3.t.cell (k := 0) rfl; have xf := T3.t.free 0; have HT3 := Lib.hid T3; have HE3 := Lib.hid E3; clear T3 E3))
            clear x0 xf
            have hvl : ats.length + 1 = (ats ++ [(gi, I)]).length := by simp
            rw [hvl] at HT3 ⊢
            obtain ⟨a2, ha2⟩ : ∃ a, some (⟨g', 0, none⟩ : Addr) = a := ⟨_, rfl⟩
            rw [ha2] at HT3 ⊢
            clear ha2 hvl
            obtain ⟨v', hvv⟩ : ∃ v, Value.slice a2 (ats ++ [(gi, I)]).length cap' = v := ⟨_, rfl⟩
            rw [hvv] at HT3 ⊢
            have T4 := HT3.out.set 0 v'
            have htp : te ≠ pp := HE3.out.ne HT3.out.t (by decide)
            have E4 := HE3.out.other (a := ⟨pp, 0, none⟩) htp v'
            obtain ⟨W4, hW4⟩ : ∃ W, w3.setCell ⟨pp, 0, none⟩ v' = W := ⟨_, rfl⟩
            rw [hW4] at T4 E4
            rw [hW4]
            dsimp only [List.set_cons_zero] at T4
            clear hW4 HT3 HE3 HNw SX EX
            have r2 := T4.t.cell (k := 2) rfl
            have r3 := T4.t.cell (k := 3) rfl
            have r4 := T4.t.cell (k := 4) rfl
            have s0 := E4.cell (k := 0) rfl
            have s1 := E4.cell (k := 1) rfl
            have s2 := E4.cell (k := 2) rfl
            have s3 := E4.cell (k := 3) rfl
            have s4 := E4.cell (k := 4) rfl
            have s5 := E4.cell (k := 5) rfl
            have s6 := E4.cell (k := 6) rfl
            have s7 := E4.cell (k := 7) rfl
            have s8 := E4.cell (k := 8) rfl
            have lr := T4.t.lt
            have le := E4.lt
            have HT4 := Lib.hid T4
            have HE4 := Lib.hid E4
            clear T4 E4
            have hof := fun W => rof_any W ⟨true, ew, eu, ea, ed, false, enx, false, ef⟩
            have hmt := fun W b cap hb => rmeet_any W b cap ⟨pw, pu, px⟩ (rtOf ⟨true, ew, eu, ea, ed, false, enx, false, ef⟩) hb
            obtain ⟨rr, hrr⟩ : ∃ r, Rt.meet ⟨pw, pu, px⟩ (rtOf ⟨true, ew, eu, ea, ed, false, enx, false, ef⟩) = r := ⟨_, rfl⟩
            simp only [hrr] at hmt
            dsimp only [rtOf] at hmt hof
            have HOf := Lib.hid hof
            have HMe := Lib.hid hmt
            have HRr := Lib.hid hrr
            clear hof hmt hrr
            refine wp_region_last (fun w' => w'.cell? ⟨pp, 2, none⟩ = some (.bool pw) ∧ w'.cell? ⟨pp, 3, none⟩ = some (.bool pu) ∧ w'.cell? ⟨pp, 4, none⟩ = some (.bool px) ∧ w'.cell? ⟨te, 0, none⟩ = some (.bool true) ∧ w'.cell? ⟨te, 1, none⟩ = some (.bool ew) ∧ w'.cell? ⟨te, 2, none⟩ = some (.bool eu) ∧ w'.cell? ⟨te, 3, none⟩ = some (.bool ea) ∧ w'.cell? ⟨te, 4, none⟩ = some (.bool ed) ∧ w'.cell? ⟨te, 5, none⟩ = some (.bool false) ∧ w'.cell? ⟨te, 6, none⟩ = some (.bool enx) ∧ w'.cell? ⟨te, 7, none⟩ = some (.bool false) ∧ w'.cell? ⟨te, 8, none⟩ = some (.int .i64 (ef : Int))) 7 (by kernel_rfl) (by go_keep) (fun hHeld => ?_)
            refine' wpAnyL_take (i := 0) (v := _) rfl (by kernel_rfl) (by kernel_rfl) (by kernel_rfl) (by kernel_rfl) (fun _ _ _ h => h) (Or.inl ⟨by with_unfolding_all rfl, ?_⟩) (by assumption) ?_
            rotate_left
            focus (intro w hSw; (try dsimp only at hSw); go_simp; try (with_reducible rfl))
            try simp only [List.getElem_toArray, List.getElem_cons_zero, Act.put, List.setIfInBounds_toArray, List.set_cons_zero, List.set_cons_succ]
            refine' wpAnyL_take (i := 1) (v := _) rfl (by kernel_rfl) (by kernel_rfl) (by kernel_rfl) (by kernel_rfl) (fun _ _ _ h => h) (Or.inl ⟨by with_unfolding_all rfl, ?_⟩) (by assumption) ?_
            rotate_left
            focus (intro w hSw; (try dsimp only at hSw); go_simp; try (with_reducible rfl))
            try simp only [List.getElem_toArray, List.getElem_cons_zero, List.getElem_cons_succ, Act.put, List.setIfInBounds_toArray, List.set_cons_zero, List.set_cons_succ]
            refine' wpAnyL_take (i := 2) (v := _) rfl (by kernel_rfl) (by kernel_rfl) (by kernel_rfl) (by kernel_rfl) (fun _ _ _ h => h) (Or.inl ⟨by with_unfolding_all rfl, ?_⟩) (by assumption) ?_
            rotate_left
            focus (intro w hSw; (try dsimp only at hSw); go_simp; try (with_reducible rfl))
            try simp only [List.getElem_toArray, List.getElem_cons_zero, List.getElem_cons_succ, Act.put, List.setIfInBounds_toArray, List.set_cons_zero, List.set_cons_succ]
            refine wpAnyL_one (i := 3) (by kernel_rfl) rfl (fun K hK => ?_)
            rw [if_pos (by with_unfolding_all rfl)]
            go_simp
            go_at_call 20
            (with_reducible refine (HOf.out _).mono ?_)
            rintro r W9 ⟨rfl, b9⟩
            have q9 := (below_of_drewN W4 1).trans b9
            clear r2 r3 r4 s0 s1 s2 s3 s4 s5 s6 s7 s8 lr le hHeld
            have xT := HT4.out.past q9
            have xE := HE4.out.past q9
            have xr2 := xT.t.cell (k := 2) rfl
            have xr3 := xT.t.cell (k := 3) rfl
            have xr4 := xT.t.cell (k := 4) rfl
            have xs0 := xE.cell (k := 0) rfl
            have xs1 := xE.cell (k := 1) rfl
            have xs2 := xE.cell (k := 2) rfl
            have xs3 := xE.cell (k := 3) rfl
            have xs4 := xE.cell (k := 4) rfl
            have xs5 := xE.cell (k := 5) rfl
            have xs6 := xE.cell (k := 6) rfl
            have xs7 := xE.cell (k := 7) rfl
            have xs8 := xE.cell (k := 8) rfl
            have xlr := xT.t.lt
            have xle := xE.lt
            refine hK.out _ _ (fun _ => by (try dsimp only); go_keep) (fun _ => ?_)
            clear hK K
            try simp only [List.getElem_toArray, List.getElem_cons_zero, List.getElem_cons_succ, Act.put, List.setIfInBounds_toArray, List.set_cons_zero, List.set_cons_succ]
            refine wpAnyL_one (i := 4) (by kernel_rfl) rfl (fun K hK => ?_)
            rw [if_pos (by with_unfolding_all rfl)]
            go_simp
            refine hK.out _ _ (fun _ => by (try dsimp only); go_keep) (fun _ => ?_)
            clear hK K
            try simp only [List.getElem_toArray, List.getElem_cons_zero, List.getElem_cons_succ, Act.put, List.setIfInBounds_toArray, List.set_cons_zero, List.set_cons_succ]
            refine wpAnyL_one (i := 5) (by kernel_rfl) rfl (fun K hK => ?_)
            rw [if_pos (by with_unfolding_all rfl)]
            go_simp
            go_at_call 21
            refine (HMe.out _ W9.heap.size 2 (Blk.new W9 29 [.bool pw, .bool pu, .bool px, .bool ew, .bool eu, .bool (!enx)])).mono ?_
            rintro r W10 ⟨rfl, b10⟩
            have q10 := q9.trans ((stepR b10).mono q9.size)
            clear xr2 xr3 xr4 xs0 xs1 xs2 xs3 xs4 xs5 xs6 xs7 xs8 xlr xle
            have uT := HT4.out.past q10
            have uE := HE4.out.past q10
            have ur2 := uT.t.cell (k := 2) rfl
            have ur3 := uT.t.cell (k := 3) rfl
            have ur4 := uT.t.cell (k := 4) rfl
            have us0 := uE.cell (k := 0) rfl
            have us1 := uE.cell (k := 1) rfl
            have us2 := uE.cell (k := 2) rfl
            have us3 := uE.cell (k := 3) rfl
            have us4 := uE.cell (k := 4) rfl
            have us5 := uE.cell (k := 5) rfl
            have us6 := uE.cell (k := 6) rfl
            have us7 := uE.cell (k := 7) rfl
            have us8 := uE.cell (k := 8) rfl
            have ulr := uT.t.lt
            have ule := uE.lt
            have uf := fun j => uT.t.free j
            refine hK.out _ _ (fun _ => by (try dsimp only); go_keep) (fun _ => ?_)
            clear hK K
            try simp only [List.getElem_toArray, List.getElem_cons_zero, List.getElem_cons_succ, Act.put, List.setIfInBounds_toArray, List.set_cons_zero, List.set_cons_succ]
            refine wpAnyL_one (i := 6) (by kernel_rfl) rfl (fun K hK => ?_)
            rw [if_pos (by with_unfolding_all rfl)]
            go_simp
            refine hK.out _ _ (fun _ => by (try dsimp only); go_keep) (fun _ => ?_)
            clear hK K
            try simp only [List.getElem_toArray, List.getElem_cons_zero, List.getElem_cons_succ, Act.put, List.setIfInBounds_toArray, List.set_cons_zero, List.set_cons_succ]
            refine wpAnyL_one (i := 7) (by kernel_rfl) rfl (fun K hK => ?_)
            rw [if_pos (by with_unfolding_all rfl)]
            go_simp
            refine hK.out _ _ (fun h => absurd rfl h) (fun _ => ?_)
            clear hK K
            refine wpAnyL_done (by kernel_rfl) ?_
            have TA := ((uT.set 2 (.bool rr.w)).set 3 (.bool rr.u)).set 4 (.bool rr.x)
            have EA := ((uE.other (a := ⟨pp, 2, none⟩) htp (.bool rr.w)).other (a := ⟨pp, 3, none⟩) htp (.bool rr.u)).other (a := ⟨pp, 4, none⟩) htp (.bool rr.x)
            obtain ⟨WA, hWA⟩ : ∃ W, ((W10.setCell ⟨pp, 2, none⟩ (.bool rr.w)).setCell ⟨pp, 3, none⟩ (.bool rr.u)).setCell ⟨pp, 4, none⟩ (.bool rr.x) = W := ⟨_, rfl⟩
            rw [hWA] at TA EA
            rw [hWA]
            dsimp only [List.set_cons_zero, List.set_cons_succ] at TA
            clear hWA ur2 ur3 ur4 us0 us1 us2 us3 us4 us5 us6 us7 us8 ulr ule uf uT uE xT xE HT4 HE4
            subst hvv
            have HT := Lib.hid TA
            have HE := Lib.hid EA
            clear TA EA
            have e4 := HE.out.cell (k := 4) rfl
            have e5 := HE.out.cell (k := 5) rfl
            have e8 := HE.out.cell (k := 8) rfl
            have t6 := HT.out.t.cell (k := 6) rfl
            have tf := fun j => HT.out.t.free j
            have le := HE.out.lt
            have lt := HT.out.t.lt
            go_wp2
            go_roundw
            case rel =>
              refine ⟨k, ef, li - 1, pre ++ [s], .slice a2 (ats ++ [(gi, I)]).length cap', by omega, by have := HLi.out; omega, rfl, rfl, HNx.out, by have := HLen.out; simp; omega, .inr ⟨pre, s, rfl, HEr2.out, by rw [HSe.out], by rw [HSe.out]⟩, ?_⟩
              rw [foldP_snoc, HP.out]
              have := HT.out.set 6 (.bool ed)
              simp only [Path.step, HSe.out, HSg.out, HSi.out, HRr.out]
              exact this
            case measure => simp [intOf]; omega
end Go.Proofs.YtlldbfpccdmclaaDoor
