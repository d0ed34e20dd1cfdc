/- slices.Chunk over bytes, two by two. choice.Get: the choices that bytes tell. The document's Same at choices; what rows of bytes, and of choices, show. Bytes as a string. -/
import Derived.Test.YtgaififhhffpfaaGreatDoorSteps
import Derived.Test.YtgaififhhffpfaaGreatDoorChoice
import Derived.Test.YtgaififhhffpfaaGreatDoorFind
import Derived.Laws.StructEq
import Derived.Laws.BytesArg
namespace Go.Proofs.YtgaififhhffpfaaGreatDoor
open Go.RowKit
attribute [local go_sem] Oper.semAt_some

/-- how long the k-th chunk of two of n is -/
def mn2 (n k : Nat) : Nat := if 2 * k + 2 ≤ n then 2 else n - 2 * k
def chunkV (b off n k : Nat) : Array Value := #[.slice (some ⟨b, off + 2 * k, none⟩) (mn2 n k) (mn2 n k)]
theorem range_front {k m : Nat} (h : k < m) : ∃ q, (List.range k ++ [k]) ++ q = List.range m := by
  rw [← List.range_succ]
  obtain ⟨d, rfl⟩ : ∃ d, m = (k + 1) + d := ⟨m - (k + 1), by omega⟩
  exact ⟨_, (List.range_add (n := k + 1) (m := d)).symm⟩
set_option maxRecDepth 100000 in
set_option maxHeartbeats 1000000 in
theorem chunk_stops (m : Nat) (hm : 3 ≤ m) (S : Nat → Prop) (T0 : TypeId) (hT : 83 ≠ T0 ∧ 3 ≠ T0) (w : World) (sb nb b off n c : Nat) (a : Option Addr) (ha : 0 < n → a = some ⟨b, off, none⟩) (hn : n ≤ 1000000) (hc : n ≤ c)
    (E1 : Blk w sb 83 [.slice a n c]) (E2 : Blk w nb 3 [.int .i64 2]) (hS : ¬ S sb ∧ ¬ S nb) :
    SeqStopsK Fence.wide m Tryz.prog 141 #[.pointer (some ⟨sb, 0, none⟩), .pointer (some ⟨nb, 0, none⟩)] (chunkV b off n) (KeepT T0 S)
      (fun xs => xs = List.range ((n + 1) / 2)) (fun pre => ∃ q, pre ++ q = List.range ((n + 1) / 2)) ((n + 1) / 2) w := by
  intro l J Jx W hW hJ hJx hY h0
  replace E1 := E1.past hW
  replace E2 := E2.past hW
  clear hW w
  refine callsIn_of_wp Tryz.func141 rfl trivial ?_ rfl
  simp only [Tryz.ntmps141, List.size_toArray, List.length_cons, List.length_nil, Nat.reduceAdd, Nat.reduceSub, Array.replicate_succ, Array.replicate_zero, List.push_toArray, List.append_toArray, List.nil_append, List.cons_append]
  gi_wp2
  gi_loopw [4] (fun i wr => ∃ k : Nat, i = .int .i64 ((2 * k : Nat) : Int) ∧ k ≤ (n + 1) / 2 ∧ J (List.range k) wr ∧ KeepT T0 S W wr)
    (fun i _ => 2 * n + 2 - (intOf i).toNat)
  case atStart => exact ⟨0, rfl, Nat.zero_le _, h0, KeepT.refl _ _ _⟩
  case round =>
    obtain ⟨k, rfl, hk, hJp, hK⟩ := hrel
    clear h0
    have F1 := E1.keepT hK hT.1 hS.1
    have F2 := E2.keepT hK hT.2 hS.2
    obtain ⟨q, hq⟩ : ∃ q, 2 * k = q := ⟨_, rfl⟩
    rw [hq]
    have e1 := F1.cell (k := 0) rfl
    have e2 := F2.cell (k := 0) rfl
    have l1 := F1.lt
    have l2 := F2.lt
    by_cases hkn : q < n
    · obtain rfl := ha (by omega)
      have hq1 : (q : Int) < (n : Int) := by omega
      obtain ⟨e, he⟩ : ∃ e, mn2 n k = e := ⟨_, rfl⟩
      have hmin : (if ((n - q : Nat) : Int) < 2 then ((n - q : Nat) : Int) else 2) = (e : Int) := by unfold mn2 at he; split at he <;> split <;> omega
      have heq : q + e ≤ n := by unfold mn2 at he; split at he <;> omega
      have hew : IntKind.i64.wrap ((q : Int) + (e : Int)) = ((q + e : Nat) : Int) := by rw [IntKind.wrap_i64]; omega
      gi_wp2_with fail
      gi_region
      have hJd : J (List.range k) wr.drew := hJ _ _ _ none hJp (grownBy_of_below (Below.refl _ _).drew) (by simp)
      have K1 := hK.drew
      obtain ⟨fn, tmps, assign, body, hy, hR⟩ := hY (List.range k) k wr.drew hJd (by rw [List.length_range]; omega)
      have hcv : chunkV b off n k = #[.slice (some ⟨b, off + q, none⟩) e e] := by unfold chunkV; rw [hq, he]
      rw [hcv] at hy
      have d1 := F1.drew.cell (k := 0) rfl
      have d2 := F2.drew.cell (k := 0) rfl
      gi_wp2
      refine ⟨fun _ => by omega, hR.mono ?_⟩
      clear hy hR e1 e2 d1 d2
      rintro e' W' (⟨rfl, hJ', hk'⟩ | ⟨rfl, hJx'⟩)
      · have G1 := F1.drew.keepT hk' hT.1 hS.1
        have G2 := F2.drew.keepT hk' hT.2 hS.2
        have g1 := G1.cell (k := 0) rfl
        have g2 := G2.cell (k := 0) rfl
        have hq2 : IntKind.i64.wrap ((q : Int) + 2) = ((2 * (k + 1) : Nat) : Int) := by rw [IntKind.wrap_i64]; omega
        gi_wp2
        exact ⟨⟨k + 1, by first | rfl | (congr 1; omega), by omega, by rw [List.range_succ]; exact hJ', K1.trans hk'⟩, by simp [intOf]; omega⟩
      · gi_wp2
        refine bodyPost_ret (results_none rfl _ _ _) rfl ?_
        exact ⟨⟨_, rfl⟩, .inr ⟨_, range_front (by omega), hJx'⟩⟩
    · gi_wp2_with fail
      refine bodyPost_end (results_none rfl _ _ _) rfl ?_
      obtain rfl : k = (n + 1) / 2 := by omega
      exact ⟨⟨_, rfl⟩, .inl ⟨_, rfl, hJp⟩⟩
end Go.Proofs.YtgaififhhffpfaaGreatDoor

namespace Go.Proofs.YtgaififhhffpfaaGreatDoor
open Go.RowKit Go.Shelf
attribute [local go_sem] Oper.semAt_some

def cC (c : Bool × Int) : List Value := [.bool c.1, .int .i64 c.2]
def CRow (w : World) (B : Nat) (v : Value) (cs : List (Bool × Int)) : Prop := w.ownsRow B 79 2 v cs.length (cs.flatMap cC)
/-- the choice that the j-th two bytes tell -/
def pairC (l : List Nat) (j : Nat) : Option (Bool × Int) :=
  if 2 * j + 2 ≤ l.length then (if (256 * l.getD (2 * j) 0 + l.getD (2 * j + 1) 0) % 32768 < 512 then some (decide (32768 ≤ 256 * l.getD (2 * j) 0 + l.getD (2 * j + 1) 0), (((256 * l.getD (2 * j) 0 + l.getD (2 * j + 1) 0) % 32768 : Nat) : Int)) else none) else none
def getC (l : List Nat) : List (Bool × Int) × Int :=
  if (List.range ((l.length + 1) / 2)).all (fun j => (pairC l j).isSome) then ((List.range ((l.length + 1) / 2)).filterMap (pairC l), 0) else ([], 12)
theorem info_choice : (Tryz.prog.info? 79).map (fun i => (i.zero, i.size, i.bytes)) = some (some (.agg #[.bool false, .int .i64 0]), 2, 16) := by kernel_rfl
theorem filter_len {l : List Nat} : ∀ {pre : List Nat}, (∀ j, j ∈ pre → (pairC l j).isSome = true) → (pre.filterMap (pairC l)).length = pre.length
  | [], _ => rfl
  | j :: pre, h => by
    obtain ⟨c, hc⟩ := Option.isSome_iff_exists.1 (h j List.mem_cons_self)
    rw [List.filterMap_cons, hc]
    simp [filter_len fun i hi => h i (List.mem_cons_of_mem _ hi)]
theorem cchunk_any (w : World) (a : Option Addr) (n c : Nat) : Calls Tryz.prog 104 #[.slice a n c, .int .i64 2] w
    fun e w' => (∃ sb nb, e = .returned (.func (.func 141) #[] #[.pointer (some ⟨sb, 0, none⟩), .pointer (some ⟨nb, 0, none⟩)]) ∧ Blk w' sb 83 [.slice a n c] ∧ Blk w' nb 3 [.int .i64 2] ∧ w.heap.size ≤ sb ∧ w.heap.size ≤ nb) ∧ Below w.heap.size w w' := by
  have h1 := (Blk.new w 83 [.slice a n c]).alloc (.cells #[.int .i64 2] 3)
  have h2 := Blk.new (w.alloc (.cells #[.slice a n c] 83)) 3 [.int .i64 2]
  rw [World.size_alloc] at h2
  have HX1 := Lib.hid h1
  have HX2 := Lib.hid h2
  clear h1 h2
  go_enter Tryz.func104, Tryz.ntmps104
  go_wp2
  go_ret
  exact ⟨⟨_, _, rfl, HX1.out, HX2.out, Nat.le_refl _, by omega⟩, ((Below.refl _ w).alloc (Nat.le_refl _) _).alloc (by simp) _⟩

theorem row_setO {W : World} {base size k : Nat} {e : TypeId} {v : Value} {ys : List Value} (h : W.ownsRow base e size v k ys) {b : Nat} {T : TypeId} {xs : List Value} (hb : Blk W b T xs) (hT : T ≠ e) (j : Nat) (x : Value) : (W.setCell ⟨b, j, none⟩ x).ownsRow base e size v k ys := by
  refine ownsRow_setCell_other h (fun e' => ?_) x
  obtain ⟨c, fr, hc⟩ := ownRow_cells h _ e'
  unfold Blk at hb; rw [hb] at hc; simp at hc; exact hT hc.2.1
/-- what is so between two rounds of Get -/
def GI (w : World) (l : List Nat) (pre : List Nat) (W : World) : Prop :=
  ((∀ j, j ∈ pre → (pairC l j).isSome = true) ∧ (∃ sl, Blk W (w.heap.size + 1 + 1) 77 [sl] ∧ W.ownsRow w.heap.size 79 2 sl pre.length ((pre.filterMap (pairC l)).flatMap cC)) ∧
    Blk W w.heap.size 77 [.slice none 0 0] ∧ Blk W (w.heap.size + 1) 84 [.int .i64 0]) ∧ Below w.heap.size w W
def GXx (w : World) (l : List Nat) (c : Code) (pre : List Nat) (W : World) : Prop :=
  (c = .ret ∧ (∃ q j, pre = q ++ [j] ∧ pairC l j = none) ∧ Blk W w.heap.size 77 [.slice none 0 0] ∧ Blk W (w.heap.size + 1) 84 [.int .i64 12]) ∧ Below w.heap.size w W
theorem GI.past {w : World} {l : List Nat} {pre : List Nat} {W W' : World} (h : GI w l pre W) (hb : Below W.heap.size W W') : GI w l pre W' := by
  obtain ⟨⟨h1, ⟨sl, h2, h3⟩, h4, h5⟩, h6⟩ := h
  exact ⟨⟨h1, ⟨sl, h2.past hb, row_past h3 hb⟩, h4.past hb, h5.past hb⟩, h6.trans (hb.mono h6.size)⟩
theorem GI.own {w : World} {l : List Nat} {B : Nat} (hB : w.heap.size ≤ B) : OwnFrom B (GI w l) := by
  rintro pre W W' row ⟨⟨h1, ⟨sl, h2, h3⟩, h4, h5⟩, h6⟩ hg hr
  exact ⟨⟨h1, ⟨sl, h2.own hg (fun r e => (hr r e).2), ownsRow_own h3 hg (fun r e => (hr r e).2)⟩, h4.own hg (fun r e => (hr r e).2), h5.own hg (fun r e => (hr r e).2)⟩, h6.grown hg h6.size (fun k e => Nat.le_trans hB (hr k e).1)⟩
theorem GXx.own {w : World} {l : List Nat} {c : Code} {B : Nat} (hB : w.heap.size ≤ B) : OwnFrom B (GXx w l c) := by
  rintro pre W W' row ⟨⟨h1, h2, h3, h4⟩, h6⟩ hg hr
  exact ⟨⟨h1, h2, h3.own hg (fun r e => (hr r e).2), h4.own hg (fun r e => (hr r e).2)⟩, h6.grown hg h6.size (fun k e => Nat.le_trans hB (hr k e).1)⟩

set_option maxRecDepth 100000 in
set_option maxHeartbeats 4000000 in
theorem cget_in (n : Nat) (hn : 9 ≤ n) (w : World) (a : Option Addr) (c : Nat) (l : List Nat) (hb : Bys w a l) (hlc : l.length ≤ c) (hl : l.length ≤ 100000) :
    CallsIn Fence.wide n Tryz.prog 47 #[.slice a l.length c] w
      fun e w' => (∃ v, e = .returned (.tuple #[v, .int .i64 (getC l).2]) ∧ CRow w' w.heap.size v (getC l).1) ∧ Below w.heap.size w w' := by
  obtain ⟨len, hlen⟩ : ∃ n, l.length = n := ⟨_, rfl⟩
  obtain ⟨b, off, hab⟩ : ∃ b off, 0 < len → a = some ⟨b, off, none⟩ := by
    rcases hb with h | ⟨b, off, h, _⟩
    · exact ⟨0, 0, fun h' => by rw [h] at hlen; simp at hlen; omega⟩
    · exact ⟨b, off, fun _ => h⟩
  rw [hlen] at hlc hl ⊢
  have HL := Lib.hid hlen
  have HBy := Lib.hid hb
  have HAb := Lib.hid hab
  clear hlen hb hab
  refine callsIn_of_wp_marks Tryz.func47 rfl trivial ?_ rfl
  simp only [Tryz.ntmps47, List.size_toArray, List.length_cons, List.length_nil, Nat.reduceAdd, Nat.reduceSub, Array.replicate_succ, Array.replicate_zero, List.push_toArray, List.append_toArray, List.nil_append, List.cons_append]
  gi_wp2_with fail
  (with_reducible refine wide3 ?_); go_at_call 104
  refine (cchunk_any _ _ _ _).mono ?_
  rintro e WL ⟨⟨sb, nb, rfl, hsb, hnb, l1, l2⟩, hbL⟩
  gi_wp2_with fail
  have q1 := Blk.new w 77 [.slice none 0 0]
  have q2 := Blk.new (w.alloc (.cells #[.slice none 0 0] 77)) 84 [.int .i64 0]
  have q3 := Blk.new ((w.alloc (.cells #[.slice none 0 0] 77)).alloc (.cells #[.int .i64 0] 84)) 77 [.slice none 0 0]
  simp only [World.size_alloc] at q2 q3 l1 l2
  have r1 := ((q1.alloc _).alloc _).past hbL
  have r2 := (q2.alloc _).past hbL
  have r3 := q3.past hbL
  have BL : Below w.heap.size w WL := (((((Below.refl _ w).alloc (Nat.le_refl _) _).alloc (by simp) _).alloc (by simp; omega) _).trans (hbL.mono (by simp; omega)))
  have hszL := hbL.size
  simp only [World.size_alloc] at hszL
  clear q1 q2 q3 hbL
  obtain ⟨S, hSd⟩ : ∃ S : Nat → Prop, S = fun k => k = w.heap.size ∨ k = w.heap.size + 1 ∨ k = w.heap.size + 1 + 1 := ⟨_, rfl⟩
  have hS0 : ∀ k, S k ↔ (k = w.heap.size ∨ k = w.heap.size + 1 ∨ k = w.heap.size + 1 + 1) := by intro k; rw [hSd]
  clear hSd
  have stops := chunk_stops (n - 1) (by omega) S 79 (by decide) WL sb nb b off len c a HAb.out (by omega) hlc hsb hnb ⟨by rw [hS0]; omega, by rw [hS0]; omega⟩
  have HS0 := Lib.hid hS0
  clear hS0 hsb hnb
  refine wpIn_rangeFunc_ownH (F := Fence.wide) rfl (by omega) (gf := 141) (lb := #[.pointer (some ⟨sb, 0, none⟩), .pointer (some ⟨nb, 0, none⟩)]) rfl trivial (enters_of Tryz.func141 (by kernel_rfl) rfl)
    stops KeepT.trans (fun W l o o' _ h ho _ => KeepT.putObj W l o o' h ho) (Below.refl _ _) (fun _ => rfl)
    (GI w l) (GXx w l) ?hI ?hIx ?h0
    (fun x a' _ => a' = { tmps := #[.slice a len c, undef, .pointer (some ⟨w.heap.size, 0, none⟩), .pointer (some ⟨w.heap.size + 1, 0, none⟩), .pointer (some ⟨w.heap.size + 1 + 1, 0, none⟩), .slice (some ⟨b, off + 2 * x, none⟩) (mn2 len x) (mn2 len x), undef, undef, .slice a len c, .func (.func 141) #[] #[.pointer (some ⟨sb, 0, none⟩), .pointer (some ⟨nb, 0, none⟩)], .slice (some ⟨b, off + 2 * x, none⟩) (mn2 len x) (mn2 len x), undef, undef, undef, undef, undef, undef, undef, undef, undef, undef, undef, undef, undef, undef, undef, undef, undef, undef, undef, undef, undef, undef, undef, undef, undef, undef, undef], defers := [] }) ?hAx ?assign ?body ?done ?stop
  case hI => exact GI.own BL.size
  case hIx => exact fun c => GXx.own BL.size
  case h0 => exact ⟨⟨fun s hs => by simp at hs, ⟨_, r3, World.ownsRow_nil _ _ _ _⟩, r1, r2⟩, BL⟩
  case hAx => rintro x a' s A C row h hg hr; exact h
  case assign =>
    rintro l' pre x W K hi hK
    clear stops r1 r2 r3
    unfold chunkV
    gi_wp2
    exact hK _ _ (KeepsFrom.of_below (Below.refl _ W)) (KeepT.refl _ _ _) hi rfl
  case body =>
    rintro l' pre x a' W hl' ⟨r, hr⟩ hi rfl hlt
    clear hr r hl' stops r1 r2 r3
    obtain ⟨⟨hne, ⟨sl, hp, hrow⟩, hrb, heb⟩, hbw⟩ := hi
    have b0 := hrb.cell (k := 0) rfl
    have bf := fun k => hrb.free k
    have bl := hrb.lt
    have d0 := heb.cell (k := 0) rfl
    have df := fun k => heb.free k
    have dl := heb.lt
    have n1 : w.heap.size + 1 ≠ w.heap.size := by omega
    have n2 : w.heap.size ≠ w.heap.size + 1 := by omega
    by_cases h2 : 2 * x + 2 ≤ len
    · have he : mn2 len x = 2 := by unfold mn2; rw [if_pos h2]
      rw [he]
      rcases HBy.out with h | ⟨b', off', h1, hb1, hcs⟩
      · exfalso; have := HL.out; rw [h] at this; simp at this; omega
      obtain ⟨rfl, rfl⟩ : b' = b ∧ off' = off := by
        have := HAb.out (by omega)
        rw [h1] at this
        injection this with e
        injection e with e1 e2
        exact ⟨e1, e2⟩
      obtain ⟨y0, c0⟩ := hcs (2 * x) (by rw [HL.out]; omega)
      obtain ⟨y1, c1⟩ := hcs (2 * x + 1) (by rw [HL.out]; omega)
      obtain ⟨z0, hz0⟩ : ∃ z, l.getD (2 * x) 0 = z := ⟨_, rfl⟩
      obtain ⟨z1, hz1⟩ : ∃ z, l.getD (2 * x + 1) 0 = z := ⟨_, rfl⟩
      rw [hz0] at y0 c0
      rw [hz1] at y1 c1
      have g0 := (hbw.cell (p := ⟨b', _, none⟩) hb1).trans c0
      have g1 := (hbw.cell (p := ⟨b', _, none⟩) hb1).trans c1
      rw [← Nat.add_assoc] at g1
      have hbW : b' < W.heap.size := Nat.lt_of_lt_of_le hb1 hbw.size
      clear c0 c1 hcs
      have w0 : IntKind.i64.wrap (z0 : Int) = (z0 : Int) := by rw [IntKind.wrap_i64]; omega
      have w1 : IntKind.i64.wrap (z1 : Int) = (z1 : Int) := by rw [IntKind.wrap_i64]; omega
      have w2 : IntKind.i64.wrap ((z0 : Int) * 256) = ((256 * z0 : Nat) : Int) := by rw [IntKind.wrap_i64]; omega
      have w3 : bits .or .i64 ((256 * z0 : Nat) : Int) (z1 : Int) = ((256 * z0 + z1 : Nat) : Int) := by
        rw [i64_or_nat _ _ (by omega) (by omega), nat_join 8 _ _ (by omega) (by omega)]
      have hval : bits .or .i64 (IntKind.i64.wrap (IntKind.i64.wrap (z0 : Int) * 256)) (IntKind.i64.wrap (z1 : Int)) = ((256 * z0 + z1 : Nat) : Int) := by rw [w0, w1, w2, w3]
      obtain ⟨nn, hnn⟩ : ∃ q, 256 * z0 + z1 = q := ⟨_, rfl⟩
      have hn2 : nn < 65536 := by omega
      rw [hnn] at hval
      have HV := Lib.hid hval
      clear w0 w1 w2 w3 hval
      gi_wp2_with fail
      gi_cut [6] from 14 (fun v wx => v = .int .i64 (nn : Int) ∧ Below W.heap.size W wx)
      case first =>
        gi_region
        all_goals gi_wp2_with fail
        all_goals gi_meet
        all_goals exact ⟨by rw [HV.out], (Below.refl _ W).drew⟩
      case rest =>
        obtain ⟨rfl, hbx⟩ := hcut
        have p2 := hp.past hbx
        have rb2 := hrb.past hbx
        have eb2 := heb.past hbx
        have row2 := row_past hrow hbx
        have bw2 := hbw.trans (hbx.mono hbw.size)
        have x0 := p2.cell (k := 0) rfl
        have xf := fun k => p2.free k
        have xl := p2.lt
        have b0 := rb2.cell (k := 0) rfl
        have bf := fun k => rb2.free k
        have bl := rb2.lt
        have d0 := eb2.cell (k := 0) rfl
        have df := fun k => eb2.free k
        have dl := eb2.lt
        have hand : bits .and .i64 (nn : Int) 32768 = ((nn / 32768 * 32768 : Nat) : Int) := by
          rw [show (32768 : Int) = ((32768 : Nat) : Int) from rfl, i64_and_nat _ _ (by omega) (by decide), and15 _ hn2]
        have hano : bits .andNot .i64 (nn : Int) 32768 = ((nn % 32768 : Nat) : Int) := by
          rw [show (32768 : Int) = ((32768 : Nat) : Int) from rfl, i64_andNot_nat _ _ (by omega) (by decide), andNot15 _ hn2]
        obtain ⟨fl, hfl⟩ : ∃ f, decide (32768 ≤ nn) = f := ⟨_, rfl⟩
        have hne0 : ((nn / 32768 * 32768 : Nat) : Int) = (if fl then 32768 else 0) := by
          cases fl
          · have := decide_eq_false_iff_not.1 hfl; simp; omega
          · have := decide_eq_true_iff.1 hfl; simp; omega
        rw [hne0] at hand
        obtain ⟨pg, hpg⟩ : ∃ q, nn % 32768 = q := ⟨_, rfl⟩
        rw [hpg] at hano
        obtain ⟨ok, hok⟩ : ∃ k, okC (fl, (pg : Int)) = k := ⟨_, rfl⟩
        have hcr := fun W => cright_any W fl (pg : Int) ok hok
        have HCr := Lib.hid hcr
        have HOk := Lib.hid hok
        have HFl := Lib.hid hfl
        have HPg := Lib.hid hpg
        have HNn := Lib.hid hnn
        have HZ0 := Lib.hid hz0
        have HZ1 := Lib.hid hz1
        clear hcr hok hfl hpg hnn hz0 hz1 hne0 HBy HAb hp hrb heb hrow hbw hn2 y0 y1 g0 g1 n1 n2
        cases fl with
        | false =>
          simp only [Bool.false_eq_true, if_false] at hand
          gi_wp2_with fail
          (with_reducible refine wide3r l' ?_); go_at_call 102
          refine (HCr.out _).mono ?_
          rintro e W2 ⟨rfl, hb2⟩
          have BA : Below wc.heap.size wc W2 := ((Below.refl _ wc).alloc (Nat.le_refl _) (.cells #[.bool false, .int .i64 (pg : Int)] 79)).trans (hb2.mono (by simp))
          have X2 := (Blk.new wc 79 [.bool false, .int .i64 (pg : Int)]).past hb2
          have P2 := p2.past BA
          have R2 := rb2.past BA
          have E2 := eb2.past BA
          have O2 := row_past row2 BA
          have BB := bw2.trans (BA.mono bw2.size)
          have BW := hbx.trans (BA.mono hbx.size)
          have y0 := X2.cell (k := 0) rfl
          have y1 := X2.cell (k := 1) rfl
          have yl := X2.lt
          have x0' := P2.cell (k := 0) rfl
          have xf' := fun k => P2.free k
          have xl' := P2.lt
          have b0' := R2.cell (k := 0) rfl
          have bf' := fun k => R2.free k
          have bl' := R2.lt
          have d0' := E2.cell (k := 0) rfl
          have df' := fun k => E2.free k
          have dl' := E2.lt
          clear x0 xf xl b0 bf bl d0 df dl p2 rb2 eb2 row2 bw2 hbx BA hb2
          cases ok with
          | false =>
            gi_wp2
            have n1 : w.heap.size + 1 ≠ w.heap.size := by omega
            have n2 : w.heap.size ≠ w.heap.size + 1 := by omega
            have RB := (R2.set 0 (.slice none 0 0)).other (a := ⟨w.heap.size + 1, 0, none⟩) n2 (.int .i64 12)
            have EB := (E2.other (a := ⟨w.heap.size, 0, none⟩) n1 (.slice none 0 0)).set 0 (.int .i64 12)
            refine ⟨(KeepsFrom.of_below BW).trans ((KeepsFrom.setCell _ _ ⟨w.heap.size, 0, none⟩ (.slice none 0 0)).trans (KeepsFrom.setCell _ _ ⟨w.heap.size + 1, 0, none⟩ (.int .i64 12))), ⟨rfl, ⟨pre, x, rfl, ?_⟩, RB, EB⟩, (BB.setCell (p := ⟨w.heap.size, 0, none⟩) (Nat.le_refl _) _).setCell (p := ⟨w.heap.size + 1, 0, none⟩) (by show w.heap.size ≤ w.heap.size + 1; omega) _⟩
            unfold pairC
            rw [HL.out, if_pos h2, HZ0.out, HZ1.out, HNn.out, HPg.out, if_neg]
            have := HOk.out
            unfold okC at this
            simp at this
            omega
          | true =>
            have hsome : pairC l x = some (false, (pg : Int)) := by
              have h5 : pg < 512 := by have := HOk.out; unfold okC at this; simp at this; omega
              unfold pairC
              rw [HL.out, if_pos h2, HZ0.out, HZ1.out, HNn.out, HPg.out, if_pos h5, HFl.out]
            obtain ⟨i0, hi, hz0, hz1, hz2⟩ := info_parts info_choice
            have HI := Lib.hid hi
            have HZ := Lib.hid hz0
            have HZ1' := Lib.hid hz1
            have HZ2' := Lib.hid hz2
            have HSm := Lib.hid hsome
            have hsz := BB.size
            clear hi hz0 hz1 hz2 hsome
            gi_wp2_with (gi_at_builtin; refine wpListIn_append_own _ rfl _ _ 77 rfl w.heap.size 79 i0 _ 2 16 Tryz.underlying77 HI.out HZ.out HZ1'.out HZ2'.out rfl (by decide) _ _ _ rfl (O2.alloc _) ⟨W2.heap.size, 0, none⟩ 1 1 [.bool false, .int .i64 (pg : Int)] rfl rfl (World.news_of_block (cs := #[.bool false, .int .i64 (pg : Int)]) (t := 79) (fr := (0, 0)) (heap_alloc_new W2 _)) (by simp [Value.oneCell']) (by unfold maxLen; omega) (by omega) (by simp; omega) ?_; intro v' w3 hown' hgrow _; obtain ⟨g', cap', rfl⟩ := ownsRow_succ hown'; have P3 := (P2.alloc (.cells #[.bool false, .int .i64 (pg : Int)] 79)).grownRow (O2.alloc _) (by decide) hgrow; have p30 := P3.cell (k := 0) rfl; have p3f := fun k => P3.free k; have p3l := P3.lt)
            have oa := O2.alloc (.cells #[.bool false, .int .i64 (pg : Int)] 79)
            have R3 := (R2.alloc (.cells #[.bool false, .int .i64 (pg : Int)] 79)).grownRow oa (by decide) hgrow
            have E3 := (E2.alloc (.cells #[.bool false, .int .i64 (pg : Int)] 79)).grownRow oa (by decide) hgrow
            have KT : KeepT 79 S W w3 := (KeepT.of_below BW).trans (((KeepT.refl _ _ _).alloc _).grown hgrow (fun k e => .inl (ownRow_cells oa k e)))
            have KF : KeepsFrom WL.heap.size W w3 := (KeepsFrom.of_below BW).trans ((KeepsFrom.of_below ((Below.refl W2.heap.size W2).alloc (Nat.le_refl _) _)).trans (KeepsFrom.grownRow oa hgrow))
            have B3 : Below w.heap.size w w3 := (BB.alloc BB.size _).grown hgrow (by simp; omega) (fun k e => (oa.lt k e).1)
            have n1 : w.heap.size ≠ w.heap.size + 1 + 1 := by omega
            have n2 : w.heap.size + 1 ≠ w.heap.size + 1 + 1 := by omega
            refine ⟨KF.trans (KeepsFrom.setCell _ _ ⟨w.heap.size + 1 + 1, 0, none⟩ _), KT.setCell (p := ⟨w.heap.size + 1 + 1, 0, none⟩) ((HS0.out _).2 (.inr (.inr rfl))) _, ⟨⟨?_, ⟨_, P3.set 0 _, ?_⟩, R3.other n1 _, E3.other n2 _⟩, B3.setCell (p := ⟨w.heap.size + 1 + 1, 0, none⟩) (by show w.heap.size ≤ w.heap.size + 1 + 1; omega) _⟩⟩
            · intro j hj
              rcases List.mem_append.1 hj with h | h
              · exact hne j h
              · obtain rfl := List.mem_singleton.1 h
                rw [HSm.out]; rfl
            · rw [List.filterMap_append, List.flatMap_append, List.length_append]
              have e : ([x].filterMap (pairC l)).flatMap cC = [.bool false, .int .i64 (pg : Int)] := by
                simp only [List.filterMap_cons, List.filterMap_nil, HSm.out, List.flatMap_cons, List.flatMap_nil, List.append_nil]
                rfl
              rw [e]
              exact row_setO hown' P3 (by decide) 0 _
        | true =>
          simp only [if_true] at hand
          gi_wp2_with fail
          (with_reducible refine wide3r l' ?_); go_at_call 102
          refine (HCr.out _).mono ?_
          rintro e W2 ⟨rfl, hb2⟩
          have BA : Below wc.heap.size wc W2 := ((Below.refl _ wc).alloc (Nat.le_refl _) (.cells #[.bool true, .int .i64 (pg : Int)] 79)).trans (hb2.mono (by simp))
          have X2 := (Blk.new wc 79 [.bool true, .int .i64 (pg : Int)]).past hb2
          have P2 := p2.past BA
          have R2 := rb2.past BA
          have E2 := eb2.past BA
          have O2 := row_past row2 BA
          have BB := bw2.trans (BA.mono bw2.size)
          have BW := hbx.trans (BA.mono hbx.size)
          have y0 := X2.cell (k := 0) rfl
          have y1 := X2.cell (k := 1) rfl
          have yl := X2.lt
          have x0' := P2.cell (k := 0) rfl
          have xf' := fun k => P2.free k
          have xl' := P2.lt
          have b0' := R2.cell (k := 0) rfl
          have bf' := fun k => R2.free k
          have bl' := R2.lt
          have d0' := E2.cell (k := 0) rfl
          have df' := fun k => E2.free k
          have dl' := E2.lt
          clear x0 xf xl b0 bf bl d0 df dl p2 rb2 eb2 row2 bw2 hbx BA hb2
          cases ok with
          | false =>
            gi_wp2
            have n1 : w.heap.size + 1 ≠ w.heap.size := by omega
            have n2 : w.heap.size ≠ w.heap.size + 1 := by omega
            have RB := (R2.set 0 (.slice none 0 0)).other (a := ⟨w.heap.size + 1, 0, none⟩) n2 (.int .i64 12)
            have EB := (E2.other (a := ⟨w.heap.size, 0, none⟩) n1 (.slice none 0 0)).set 0 (.int .i64 12)
            refine ⟨(KeepsFrom.of_below BW).trans ((KeepsFrom.setCell _ _ ⟨w.heap.size, 0, none⟩ (.slice none 0 0)).trans (KeepsFrom.setCell _ _ ⟨w.heap.size + 1, 0, none⟩ (.int .i64 12))), ⟨rfl, ⟨pre, x, rfl, ?_⟩, RB, EB⟩, (BB.setCell (p := ⟨w.heap.size, 0, none⟩) (Nat.le_refl _) _).setCell (p := ⟨w.heap.size + 1, 0, none⟩) (by show w.heap.size ≤ w.heap.size + 1; omega) _⟩
            unfold pairC
            rw [HL.out, if_pos h2, HZ0.out, HZ1.out, HNn.out, HPg.out, if_neg]
            have := HOk.out
            unfold okC at this
            simp at this
            omega
          | true =>
            have hsome : pairC l x = some (true, (pg : Int)) := by
              have h5 : pg < 512 := by have := HOk.out; unfold okC at this; simp at this; omega
              unfold pairC
              rw [HL.out, if_pos h2, HZ0.out, HZ1.out, HNn.out, HPg.out, if_pos h5, HFl.out]
            obtain ⟨i0, hi, hz0, hz1, hz2⟩ := info_parts info_choice
            have HI := Lib.hid hi
            have HZ := Lib.hid hz0
            have HZ1' := Lib.hid hz1
            have HZ2' := Lib.hid hz2
            have HSm := Lib.hid hsome
            have hsz := BB.size
            clear hi hz0 hz1 hz2 hsome
            gi_wp2_with (gi_at_builtin; refine wpListIn_append_own _ rfl _ _ 77 rfl w.heap.size 79 i0 _ 2 16 Tryz.underlying77 HI.out HZ.out HZ1'.out HZ2'.out rfl (by decide) _ _ _ rfl (O2.alloc _) ⟨W2.heap.size, 0, none⟩ 1 1 [.bool true, .int .i64 (pg : Int)] rfl rfl (World.news_of_block (cs := #[.bool true, .int .i64 (pg : Int)]) (t := 79) (fr := (0, 0)) (heap_alloc_new W2 _)) (by simp [Value.oneCell']) (by unfold maxLen; omega) (by omega) (by simp; omega) ?_; intro v' w3 hown' hgrow _; obtain ⟨g', cap', rfl⟩ := ownsRow_succ hown'; have P3 := (P2.alloc (.cells #[.bool true, .int .i64 (pg : Int)] 79)).grownRow (O2.alloc _) (by decide) hgrow; have p30 := P3.cell (k := 0) rfl; have p3f := fun k => P3.free k; have p3l := P3.lt)
            have oa := O2.alloc (.cells #[.bool true, .int .i64 (pg : Int)] 79)
            have R3 := (R2.alloc (.cells #[.bool true, .int .i64 (pg : Int)] 79)).grownRow oa (by decide) hgrow
            have E3 := (E2.alloc (.cells #[.bool true, .int .i64 (pg : Int)] 79)).grownRow oa (by decide) hgrow
            have KT : KeepT 79 S W w3 := (KeepT.of_below BW).trans (((KeepT.refl _ _ _).alloc _).grown hgrow (fun k e => .inl (ownRow_cells oa k e)))
            have KF : KeepsFrom WL.heap.size W w3 := (KeepsFrom.of_below BW).trans ((KeepsFrom.of_below ((Below.refl W2.heap.size W2).alloc (Nat.le_refl _) _)).trans (KeepsFrom.grownRow oa hgrow))
            have B3 : Below w.heap.size w w3 := (BB.alloc BB.size _).grown hgrow (by simp; omega) (fun k e => (oa.lt k e).1)
            have n1 : w.heap.size ≠ w.heap.size + 1 + 1 := by omega
            have n2 : w.heap.size + 1 ≠ w.heap.size + 1 + 1 := by omega
            refine ⟨KF.trans (KeepsFrom.setCell _ _ ⟨w.heap.size + 1 + 1, 0, none⟩ _), KT.setCell (p := ⟨w.heap.size + 1 + 1, 0, none⟩) ((HS0.out _).2 (.inr (.inr rfl))) _, ⟨⟨?_, ⟨_, P3.set 0 _, ?_⟩, R3.other n1 _, E3.other n2 _⟩, B3.setCell (p := ⟨w.heap.size + 1 + 1, 0, none⟩) (by show w.heap.size ≤ w.heap.size + 1 + 1; omega) _⟩⟩
            · intro j hj
              rcases List.mem_append.1 hj with h | h
              · exact hne j h
              · obtain rfl := List.mem_singleton.1 h
                rw [HSm.out]; rfl
            · rw [List.filterMap_append, List.flatMap_append, List.length_append]
              have e : ([x].filterMap (pairC l)).flatMap cC = [.bool true, .int .i64 (pg : Int)] := by
                simp only [List.filterMap_cons, List.filterMap_nil, HSm.out, List.flatMap_cons, List.flatMap_nil, List.append_nil]
                rfl
              rw [e]
              exact row_setO hown' P3 (by decide) 0 _
    · obtain ⟨e, he⟩ : ∃ e, mn2 len x = e := ⟨_, rfl⟩
      have he2 : e < 2 := by unfold mn2 at he; rw [if_neg h2] at he; omega
      have hp0 : pairC l x = none := by unfold pairC; rw [HL.out, if_neg h2]
      rw [he]
      gi_wp2
      have RB := (hrb.set 0 (.slice none 0 0)).other (a := ⟨w.heap.size + 1, 0, none⟩) n2 (.int .i64 12)
      have EB := (heb.other (a := ⟨w.heap.size, 0, none⟩) n1 (.slice none 0 0)).set 0 (.int .i64 12)
      exact ⟨(KeepsFrom.setCell _ _ ⟨w.heap.size, 0, none⟩ (.slice none 0 0)).trans (KeepsFrom.setCell _ _ ⟨w.heap.size + 1, 0, none⟩ (.int .i64 12)), ⟨rfl, ⟨pre, x, rfl, hp0⟩, RB, EB⟩, (hbw.setCell (p := ⟨w.heap.size, 0, none⟩) (Nat.le_refl _) _).setCell (p := ⟨w.heap.size + 1, 0, none⟩) (by show w.heap.size ≤ w.heap.size + 1; omega) _⟩
  case done =>
    rintro D xs W hD hxs ⟨⟨hne, ⟨sl, hp, hrow⟩, hrb, heb⟩, hbw⟩ hDd
    obtain ⟨sa, sn, sc, rfl⟩ : ∃ a n c, sl = .slice a n c := by rcases hrow.2 with ⟨e, _⟩ | ⟨_, _, _, e, _⟩ <;> exact ⟨_, _, _, e⟩
    have hg : getC l = (xs.filterMap (pairC l), 0) := by
      unfold getC
      rw [HL.out, ← hxs, if_pos]
      rw [List.all_eq_true]
      exact fun j hj => hne j hj
    have hfl := filter_len hne
    have HGt := Lib.hid hg
    have HFl := Lib.hid hfl
    have x0 := hp.cell (k := 0) rfl
    have xl := hp.lt
    have b0 := hrb.cell (k := 0) rfl
    have bf := fun k => hrb.free k
    have bl := hrb.lt
    have d0 := heb.cell (k := 0) rfl
    have df := fun k => heb.free k
    have dl := heb.lt
    have n1 : w.heap.size + 1 ≠ w.heap.size := by omega
    have n2 : w.heap.size ≠ w.heap.size + 1 := by omega
    have n3 : w.heap.size + 1 + 1 ≠ w.heap.size := by omega
    have n4 : w.heap.size + 1 + 1 ≠ w.heap.size + 1 := by omega
    clear stops r1 r2 r3 hne hg hfl
    gi_wp2
    have hDW := lt_of_block hDd
    have RB := (hrb.set 0 (.slice sa sn sc)).other (a := ⟨w.heap.size + 1, 0, none⟩) n2 (.int .i64 0)
    have EB := (heb.other (a := ⟨w.heap.size, 0, none⟩) n1 (.slice sa sn sc)).set 0 (.int .i64 0)
    have OW := row_setO (row_setO hrow hrb (by decide) 0 (.slice sa sn sc)) (heb.other (a := ⟨w.heap.size, 0, none⟩) n1 (.slice sa sn sc)) (by decide) 0 (.int .i64 0)
    have BB := (hbw.setCell (p := ⟨w.heap.size, 0, none⟩) (Nat.le_refl _) (.slice sa sn sc)).setCell (p := ⟨w.heap.size + 1, 0, none⟩) (by show w.heap.size ≤ w.heap.size + 1; omega) (.int .i64 0)
    have hDd' : ((W.setCell ⟨w.heap.size, 0, none⟩ (.slice sa sn sc)).setCell ⟨w.heap.size + 1, 0, none⟩ (.int .i64 0)).heap[D]? = some (.deferred (some [])) :=
      ((Below.heap_setCell _ _ _ _ (show D ≠ w.heap.size + 1 by omega)).trans (Below.heap_setCell _ _ _ _ (show D ≠ w.heap.size by omega))).trans hDd
    refine ⟨by simp, .inl ⟨_, _, rfl, run_takeDeferred hDd', ?_⟩⟩
    have hgr := grownBy_putObj' ((W.setCell ⟨w.heap.size, 0, none⟩ (.slice sa sn sc)).setCell ⟨w.heap.size + 1, 0, none⟩ (.int .i64 0)) D (.deferred none)
    have hno : ∀ r, some D = some r → ∃ o : Obj, ((W.setCell ⟨w.heap.size, 0, none⟩ (.slice sa sn sc)).setCell ⟨w.heap.size + 1, 0, none⟩ (.int .i64 0)).heap[r]? = some o ∧ o.isCells = false := fun r e => by cases e; exact ⟨_, hDd', rfl⟩
    have R := RB.own hgr hno
    have E' := EB.own hgr hno
    have O' := ownsRow_own OW hgr hno
    have r0 := R.cell (k := 0) rfl
    have e0 := E'.cell (k := 0) rfl
    rw [HGt.out]
    refine ⟨.tuple #[.slice sa sn sc, .int .i64 0], by simp [results, Tryz.f47, go_sem, r0, e0], ⟨_, rfl, ?_⟩, BB.grown hgr BB.size (fun k e => by cases e; omega)⟩
    unfold CRow
    rw [HFl.out]
    exact O'
  case stop =>
    rintro D c pre W hD ⟨q', hpre⟩ ⟨⟨rfl, ⟨q, j, hq, hno⟩, hrb, heb⟩, hbw⟩ hDd
    have hg : getC l = ([], 12) := by
      unfold getC
      rw [if_neg]
      intro h
      rw [List.all_eq_true] at h
      have hm : j ∈ List.range ((l.length + 1) / 2) := by rw [HL.out, ← hpre, hq]; simp
      have := h j hm
      rw [hno] at this; cases this
    have HGt := Lib.hid hg
    clear stops r1 r2 r3 hg hno hq hpre
    gi_wp2
    refine ⟨by simp, .inl ⟨_, _, rfl, run_takeDeferred hDd, ?_⟩⟩
    have hgr := grownBy_putObj' W D (.deferred none)
    have hno : ∀ r, some D = some r → ∃ o : Obj, W.heap[r]? = some o ∧ o.isCells = false := fun r e => by cases e; exact ⟨_, hDd, rfl⟩
    have R := hrb.own hgr hno
    have E' := heb.own hgr hno
    have r0 := R.cell (k := 0) rfl
    have e0 := E'.cell (k := 0) rfl
    rw [HGt.out]
    exact ⟨.tuple #[.slice none 0 0, .int .i64 12], by simp [results, Tryz.f47, go_sem, r0, e0], ⟨_, rfl, World.ownsRow_nil _ _ _ _⟩, hbw.grown hgr hbw.size (fun k e => by cases e; omega)⟩
theorem cget_any (w : World) (a : Option Addr) (c : Nat) (l : List Nat) (hb : Bys w a l) (hlc : l.length ≤ c) (hl : l.length ≤ 100000) :
    Calls Tryz.prog 47 #[.slice a l.length c] w
      fun e w' => (∃ v, e = .returned (.tuple #[v, .int .i64 (getC l).2]) ∧ CRow w' w.heap.size v (getC l).1) ∧ Below w.heap.size w w' :=
  callsIn_wide.1 (cget_in 9 (by omega) w a c l hb hlc hl)
end Go.Proofs.YtgaififhhffpfaaGreatDoor

namespace Go.Proofs.YtgaififhhffpfaaGreatDoor
open Go.RowKit Go.Shelf

theorem chs_blk {w : World} {b : Nat} {cs : List (Bool × Int)} {rest : List Value} (h : Blk w b 79 (cs.flatMap cC ++ rest)) : Chs w (some ⟨b, 0, none⟩) cs := by
  refine .inr ⟨b, 0, rfl, h.lt, fun j hj => ?_⟩
  have key : ∀ (cs : List (Bool × Int)) (rest : List Value) (j : Nat), j < cs.length → (cs.flatMap cC ++ rest)[j * 2]? = some (.bool (cs.getD j (false, 0)).1) ∧ (cs.flatMap cC ++ rest)[j * 2 + 1]? = some (.int .i64 (cs.getD j (false, 0)).2) := by
    intro cs
    induction cs with
    | nil => intro _ j hj; simp at hj
    | cons c cs ih =>
      intro rest j hj
      cases j with
      | zero => simp [cC]
      | succ j =>
        have := ih rest j (by simpa using hj)
        rw [show (j + 1) * 2 = j * 2 + 2 by omega]
        simpa [cC, List.getD_cons_succ] using this
  obtain ⟨k0, k1⟩ := key cs rest j hj
  refine ⟨h.cell (k := 0 + j * 2) (by rw [Nat.zero_add]; exact k0), ?_⟩
  exact h.cell (k := 0 + j * 2 + 1) (by rw [Nat.zero_add]; exact k1)
theorem CRow.view {w : World} {B : Nat} {v : Value} {cs : List (Bool × Int)} (h : CRow w B v cs) : ∃ a c, v = .slice a cs.length c ∧ Chs w a cs ∧ cs.length ≤ c ∧ (∀ b, v.ownBlock = some b → B ≤ b ∧ ∃ rest, Blk w b 79 (cs.flatMap cC ++ rest)) := by
  rcases h.2 with ⟨e1, e2⟩ | ⟨g, cap, cur, rfl, hB, h3, h4, h5, h6, h7⟩
  · have hnil : cs = [] := List.length_eq_zero_iff.1 e2
    subst hnil
    exact ⟨none, 0, e1, .inl rfl, Nat.le_refl _, fun b hb => by rw [e1] at hb; simp [Value.ownBlock] at hb⟩
  · have hb : Blk w g 79 (cs.flatMap cC ++ cur.toList.drop (cs.length * 2)) := by
      unfold Blk
      rw [h3, ← h7, List.take_append_drop]
    exact ⟨_, _, rfl, chs_blk hb, h4, fun b hb' => by simp [Value.ownBlock] at hb'; subst hb'; exact ⟨hB, _, hb⟩⟩
theorem bys_blk {w : World} {b : Nat} {bs : List Nat} {rest : List Value} (hbd : ∀ x, x ∈ bs → x < 256) (h : Blk w b 5 (bs.map u8v ++ rest)) : Bys w (some ⟨b, 0, none⟩) bs := by
  refine .inr ⟨b, 0, rfl, h.lt, fun j hj => ⟨?_, ?_⟩⟩
  · rw [List.getD, List.getElem?_eq_getElem hj]; exact hbd _ (List.getElem_mem _)
  · exact h.cell (k := 0 + j) (by rw [Nat.zero_add, List.getElem?_append_left (by simpa using hj)]; simp [List.getElem?_eq_getElem hj, u8v, List.getD])
theorem BRow.view {w : World} {B : Nat} {v : Value} {bs : List Nat} (hbd : ∀ x, x ∈ bs → x < 256) (h : BRow w B v bs) : ∃ a c, v = .slice a bs.length c ∧ Bys w a bs ∧ bs.length ≤ c ∧ (∀ b, v.ownBlock = some b → B ≤ b ∧ ∃ rest, Blk w b 5 (bs.map u8v ++ rest)) := by
  rcases h.2 with ⟨e1, e2⟩ | ⟨g, cap, cur, rfl, hB, h3, h4, h5, h6, h7⟩
  · have hnil : bs = [] := List.length_eq_zero_iff.1 e2
    subst hnil
    exact ⟨none, 0, e1, .inl rfl, Nat.le_refl _, fun b hb => by rw [e1] at hb; simp [Value.ownBlock] at hb⟩
  · have hb : Blk w g 5 (bs.map u8v ++ cur.toList.drop (bs.length * 1)) := by
      unfold Blk
      rw [h3, ← h7, List.take_append_drop]
    exact ⟨_, _, rfl, bys_blk hbd hb, h4, fun b hb' => by simp [Value.ownBlock] at hb'; subst hb'; exact ⟨hB, _, hb⟩⟩
theorem putC_bd (l : List (Bool × Int)) : ∀ x, x ∈ putC l → x < 256 := by
  intro x hx
  unfold putC at hx
  split at hx
  · rename_i h
    obtain ⟨c, hc, hx⟩ := List.mem_flatMap.1 hx
    have := List.all_eq_true.1 h c hc
    unfold okC at this
    simp only [Bool.and_eq_true, decide_eq_true_iff] at this
    unfold two at hx
    simp only [List.mem_cons, List.not_mem_nil, or_false] at hx
    rcases hx with rfl | rfl
    · split <;> omega
    · omega
  · simp at hx

set_option maxRecDepth 100000 in
/-- the document's Same at choices -/
theorem csame_any (w : World) (a b : Option Addr) (ca cb : Nat) (xs ys : List (Bool × Int)) (hx : Chs w a xs) (hy : Chs w b ys) (hl : xs.length ≤ 1000000) (hl2 : ys.length ≤ 1000000) :
    Calls Tryz.prog 52 #[.slice a xs.length ca, .slice b ys.length cb] w
      fun e w' => e = .returned (.bool (decide (xs = ys))) ∧ Below w.heap.size w w' := by
  obtain ⟨res, hres⟩ : ∃ r, decide (xs = ys) = r := ⟨_, rfl⟩
  obtain ⟨n, hn⟩ : ∃ n, xs.length = n := ⟨_, rfl⟩
  obtain ⟨m, hm⟩ : ∃ n, ys.length = n := ⟨_, rfl⟩
  rw [hn] at hl
  rw [hm] at hl2
  rw [hres, hn, hm]
  have HR := Lib.hid hres
  have HX := Lib.hid hx
  have HY := Lib.hid hy
  have HN := Lib.hid hn
  have HM := Lib.hid hm
  clear hres hx hy hn hm
  by_cases hnm : n = m
  · subst hnm
    go_enter Tryz.func52, Tryz.ntmps52
    go_wp2_with fail
    go_loopw [5] (fun i wr => ∃ k : Nat, k ≤ n ∧ i = .int .i64 k ∧ (∀ j, j < k → xs.getD j (false, 0) = ys.getD j (false, 0)) ∧ Below w.heap.size w wr) (fun i _ => n - (intOf i).toNat)
    case atStart => exact ⟨0, by omega, rfl, fun j hj => by omega, Below.refl _ _⟩
    case round =>
      obtain ⟨k, hk, rfl, heq, hB⟩ := hrel
      by_cases hkl : k < n
      · obtain ⟨bx, ox, f, p, rfl, h1, e1, C0, C1⟩ := HX.out.at k (by rw [HN.out]; exact hkl)
        obtain ⟨by', oy, g, q, rfl, h2, e2, D0, D1⟩ := HY.out.at k (by rw [HM.out]; exact hkl)
        have c0 := (hB.cell (p := ⟨bx, _, none⟩) h1).trans C0
        have c1 := (hB.cell (p := ⟨bx, _, none⟩) h1).trans C1
        have d0 := (hB.cell (p := ⟨by', _, none⟩) h2).trans D0
        have d1 := (hB.cell (p := ⟨by', _, none⟩) h2).trans D1
        have HE1 := Lib.hid e1
        have HE2 := Lib.hid e2
        have HEq := Lib.hid heq
        have HBl := Lib.hid hB
        clear C0 C1 D0 D1 e1 e2 heq hB
        by_cases hfg : f = g ∧ p = q
        · obtain ⟨rfl, rfl⟩ := hfg
          go_wp2_with fail
          go_quiet (fail)
          go_wp2
          go_roundw
          case rel => exact ⟨k + 1, by omega, by simp, fun j hj => by
                                                                    rcases Nat.lt_succ_iff_lt_or_eq.1 hj with h | rfl
                                                                    · exact HEq.out j h
                                                                    · rw [HE1.out, HE2.out], HBl.out.trans (below_of_drewN _ _ |>.mono HBl.out.size)⟩
          case measure => simp [intOf]; omega
        · have hr : res = false := by
            rw [← HR.out, decide_eq_false_iff_not]
            intro h
            subst h
            have := HE1.out.symm.trans HE2.out
            injection this with x1 x2
            exact hfg ⟨x1, x2⟩
          have HRf := Lib.hid hr
          by_cases hpq : p = q
          · subst hpq
            have hfg' : ¬ f = g := fun e => hfg ⟨e, rfl⟩
            have HF := Lib.hid hfg'
            clear hfg hfg' hr
            cases f <;> cases g
            · exact absurd rfl HF.out
            · go_wp2_with fail
              go_quiet (fail)
              go_wp2
              go_ret
              exact ⟨by rw [HRf.out]; rfl, HBl.out.trans (below_of_drewN _ _ |>.mono HBl.out.size)⟩
            · go_wp2_with fail
              go_quiet (fail)
              go_wp2
              go_ret
              exact ⟨by rw [HRf.out]; rfl, HBl.out.trans (below_of_drewN _ _ |>.mono HBl.out.size)⟩
            · exact absurd rfl HF.out
          · have epq : (p == q) = false := beq_eq_false_iff_ne.2 hpq
            clear hfg hpq hr
            go_wp2_with fail
            go_quiet (fail)
            go_wp2
            go_ret
            exact ⟨by rw [HRf.out]; rfl, HBl.out.trans (below_of_drewN _ _ |>.mono HBl.out.size)⟩
      · obtain rfl : k = n := by omega
        have hr : res = true := by
          rw [← HR.out, decide_eq_true_iff]
          refine List.ext_getElem (by rw [HN.out, HM.out]) fun j h1 h2 => ?_
          have := heq j (by rw [← HN.out]; exact h1)
          simpa [List.getD, List.getElem?_eq_getElem h1, List.getElem?_eq_getElem h2] using this
        have HRt := Lib.hid hr
        clear heq hr hkl hk
        go_wp2
        go_ret
        exact ⟨by rw [HRt.out]; rfl, hB⟩
  · have hr : res = false := by
      rw [← HR.out, decide_eq_false_iff_not]
      intro h
      exact hnm (by rw [← HN.out, ← HM.out, h])
    have enm : ((n : Int) != (m : Int)) = true := bne_iff_ne.2 (fun h => hnm (Int.ofNat_inj.1 h))
    have HRf := Lib.hid hr
    clear hnm hr
    go_enter Tryz.func52, Tryz.ntmps52
    go_wp2
    go_ret
    exact ⟨by rw [HRf.out]; rfl, Below.refl _ _⟩
end Go.Proofs.YtgaififhhffpfaaGreatDoor

namespace Go.Proofs.YtgaififhhffpfaaGreatDoor
open Go.RowKit Go.Shelf

def byteS (bs : List Nat) : ByteArray := strOfNums (bs.map Int.ofNat)
theorem conv_bys {W : World} {a : Option Addr} {bs : List Nat} (h : Bys W a bs) (n c : Nat) (hn : bs.length = n) : (convert 83 9 (.slice a n c)).run Tryz.prog W = .ok (.string (byteS bs)) W := by
  rcases h with h | ⟨b, off, rfl, h2, h3⟩
  · subst h
    simp at hn
    subst hn
    cases a with
    | none => rw [show byteS [] = ByteArray.empty by decide +kernel]; exact run_convert_bytes_nil W _ _ Tryz.underlying83 Tryz.underlying5 0 c _ Tryz.underlying9
    | some p =>
      rw [run_convert_bytes_string W _ _ _ _ 0 c Tryz.underlying83 Tryz.underlying5 Tryz.underlying9, run_bytesToString W p 0 c [] (by kernel_rfl), show byteS [] = ByteArray.empty by decide +kernel]
      rfl
  · refine run_convert_bytes_arg W _ _ Tryz.underlying83 Tryz.underlying5 b off n c _ (by simpa using hn) (fun i hi => ?_) _ Tryz.underlying9
    have := (h3 i (by omega)).2
    rw [this]
    congr 2
    rw [List.getD, List.getD, List.getElem?_map]
    have hi' : i < bs.length := by omega
    rw [List.getElem?_eq_getElem hi']; rfl
/-! the contracts, at slices whose lengths are told -/
theorem apply_n {w0 w : World} {ts : List Thing} (H : Hold w0 w ts) (i : Nat) {A : MA} {v : Value} {S : S10} (hi : ts[i]? = some (Go.Proofs.YtgaififhhffpfaaGreatDoor.mdl A v S)) (hE : EC w0) (h0 : 1 ≤ w0.heap.size)
    (a : Option Addr) (c : Nat) (l : List (Bool × Int)) (n : Nat) (hn : l.length = n) (hl : n ≤ 9223372036854775807) (hc : ∀ W v' S', Hold w0 W (ts.set i (Go.Proofs.YtgaififhhffpfaaGreatDoor.mdl A v' S')) → Chs W a l) :
    Calls Tryz.prog 46 #[.pointer (some ⟨A.p, 0, none⟩), .slice a n c] w fun e w' => e = .returned (.int .i64 ((applyN S l).1 : Int)) ∧ ∃ v', Hold w0 w' (ts.set i (Go.Proofs.YtgaififhhffpfaaGreatDoor.mdl A v' (applyN S l).2)) := by
  subst hn; exact apply_h H i hi hE h0 a c l hl hc
theorem put_n (w : World) (a : Option Addr) (c : Nat) (l : List (Bool × Int)) (n : Nat) (hn : l.length = n) (hc : Chs w a l) (hl : n ≤ 1000000) :
    Calls Tryz.prog 50 #[.slice a n c] w fun e w' => (∃ v, e = .returned v ∧ BRow w' w.heap.size v (putC l)) ∧ Below w.heap.size w w' := by
  subst hn; exact cput_any w a c l hc hl
theorem get_n (w : World) (a : Option Addr) (c : Nat) (l : List Nat) (n : Nat) (hn : l.length = n) (hb : Bys w a l) (hlc : n ≤ c) (hl : n ≤ 100000) :
    Calls Tryz.prog 47 #[.slice a n c] w
      fun e w' => (∃ v, e = .returned (.tuple #[v, .int .i64 (getC l).2]) ∧ CRow w' w.heap.size v (getC l).1) ∧ Below w.heap.size w w' := by
  subst hn; exact cget_any w a c l hb hlc hl
theorem same_n (w : World) (a b : Option Addr) (ca cb : Nat) (xs ys : List (Bool × Int)) (n m : Nat) (hn : xs.length = n) (hm : ys.length = m) (hx : Chs w a xs) (hy : Chs w b ys) (hl : n ≤ 1000000) (hl2 : m ≤ 1000000) :
    Calls Tryz.prog 52 #[.slice a n ca, .slice b m cb] w
      fun e w' => e = .returned (.bool (decide (xs = ys))) ∧ Below w.heap.size w w' := by
  subst hn hm; exact csame_any w a b ca cb xs ys hx hy hl hl2
end Go.Proofs.YtgaififhhffpfaaGreatDoor
