/- frame.New of 16 frames, gmap.New of the numbers 0 to 15, guest.New. The laws' Made: a guest of 16 frames with words. -/
import Derived.Test.YtglohconhbcchaaGreatDoorPath
import Derived.Maps.OwnSet
import Derived.OwnWalk
import Derived.WalkArith
import Derived.Deep.QuietTactic
import Derived.Maps.AppendAt
namespace Go.Proofs.YtglohconhbcchaaGreatDoor
open Go.RowKit Go.Maps

theorem info_int : (Tryz.prog.info? 3).map (fun i => (i.zero, i.size, i.bytes)) = some (some (.int .i64 0), 1, 8) := by kernel_rfl
theorem key_int : Keyed Tryz.prog 3 := int_keyed Tryz.underlying3
def u64s (n : Nat) : List Value := List.replicate n (.int .u64 0)
theorem mk_frames (w : World) : (Instr.makeSlice 195 (.int .i64 16) (.int .i64 16)).run Tryz.prog w = .ok (.slice (some ⟨w.heap.size, 0, none⟩) 16 16) (w.alloc (.cells (u64s 128).toArray 247)) := by kernel_rfl
theorem mk_map (w : World) : (Instr.makeMap 198 (some (.int .i64 16))).run Tryz.prog w = .ok (.map (some w.heap.size)) (w.alloc (.map #[] 0)) := by kernel_rfl

theorem frameNew_any (w : World) :
    Calls Tryz.prog 46 #[.int .i64 16] w
      fun e w' => (∃ fp fb, e = .returned (.pointer (some ⟨fp, 0, none⟩)) ∧ Host w' fp fb 16 (List.replicate 128 0) ∧ w.heap.size ≤ fp ∧ w.heap.size ≤ fb) ∧ Below w.heap.size w w' := by
  have h1 := mk_frames
  have h2 := Blk.new w 247 (u64s 128)
  have h3 := Blk.new (w.alloc (.cells (u64s 128).toArray 247)) 197 [.slice (some ⟨w.heap.size, 0, none⟩) 16 16]
  have H2 := Lib.hid h2
  have H3 := Lib.hid h3
  clear h2 h3
  obtain ⟨us, hus⟩ : ∃ us, u64s 128 = us := ⟨_, rfl⟩
  rw [hus] at h1 H2 H3
  have HU := Lib.hid hus
  clear hus
  go_enter Tryz.func46, Tryz.ntmps46
  go_wp2
  go_ret
  refine ⟨⟨w.heap.size + 1, w.heap.size, rfl, ⟨?_, ?_, by simp, by omega, fun v hv => by simp at hv; omega⟩, by omega, by omega⟩, ((Below.refl _ _).alloc (Nat.le_refl _) _).alloc (by simp) _⟩
  · have := H3.out; simpa using this
  · have h := H2.out.alloc (.cells #[.slice (some ⟨w.heap.size, 0, none⟩) 16 16] 197)
    have e : List.map u64 (List.replicate 128 0) = us := by rw [← HU.out, List.map_replicate]; rfl
    rw [e]; exact h

theorem guestNew_any (w : World) (fp gp : Nat) :
    Calls Tryz.prog 50 #[.pointer (some ⟨fp, 0, none⟩), .pointer (some ⟨gp, 0, none⟩)] w
      fun e w' => e = .returned (.pointer (some ⟨w.heap.size, 0, none⟩)) ∧ w' = w.alloc (.cells #[.pointer (some ⟨gp, 0, none⟩), .pointer (some ⟨fp, 0, none⟩)] 203) := by
  go_enter Tryz.func50, Tryz.ntmps50
  go_wp2
  go_ret
  exact ⟨rfl, rfl⟩

theorem eql_nil (g k c : Nat) (w : World) : (binOp .eql 43 (.slice (some ⟨g, 0, none⟩) k c) (.slice none 0 0)).run Tryz.prog w = .ok (.bool false) w := by kernel_rfl
theorem add0 (g j : Nat) : (⟨g, 0, none⟩ : Addr).add j = ⟨g, j, none⟩ := by
  unfold Addr.add; split <;> simp_all
set_option maxRecDepth 100000 in
theorem clone_any (w : World) (g c k : Nat) (xs rest : List Value) (hb : Blk w g 3 (xs ++ rest)) (hl : xs.length = k) (hk : 0 < k) (hk2 : k ≤ 1000) (hx : ∀ u ∈ xs, u.oneCell' = true) :
    Calls Tryz.prog 100 #[.slice (some ⟨g, 0, none⟩) k c] w
      fun e w' => (∃ hb cap sp, e = .returned (.slice (some ⟨hb, 0, none⟩) k cap) ∧ Blk w' hb 3 (xs ++ sp) ∧ w.heap.size ≤ hb) ∧ Below w.heap.size w w' := by
  obtain ⟨i0, hi, hz0, hz1, hz2⟩ := info_parts info_int
  have hcells : ∀ (o : Obj) j u, xs[j]? = some u → (w.alloc o).cell? ((⟨g, 0, none⟩ : Addr).add j) = some u := by
    intro o j u hu
    rw [add0]
    refine (hb.alloc o).cell ?_
    rw [List.getElem?_append_left (List.getElem?_eq_some_iff.1 hu).1]; exact hu
  have hg := hb.lt
  have HC := Lib.hid hcells
  have HX := Lib.hid hx
  have HL := Lib.hid hl
  have H1 := Lib.hid hi
  have HZ0 := Lib.hid hz0
  have HZ1 := Lib.hid hz1
  have HZ2 := Lib.hid hz2
  have hnil := fun w => eql_nil g k c w
  have hemp : (w.alloc (.cells #[] 3)).ownsRow w.heap.size 3 1 (.slice (some ⟨w.heap.size, 0, none⟩) 0 0) 0 [] := ⟨rfl, .inr ⟨w.heap.size, 0, #[], rfl, Nat.le_refl _, heap_alloc_new w _, Nat.le_refl _, by unfold maxLen; omega, rfl, rfl⟩⟩
  clear hcells hx hl hi hz0 hz1 hz2 hb
  go_enter Tryz.func100, Tryz.ntmps100
  go_wp2_with (first
    | (at_builtin; refine wpList_append_own _ rfl _ _ 43 rfl w.heap.size 3 i0 _ 1 8 Tryz.underlying43 H1.out HZ0.out HZ1.out HZ2.out rfl (by decide) _ 0 [] rfl hemp ⟨g, 0, none⟩ k c xs rfl (by rw [HL.out]; omega) (HC.out _) HX.out (by unfold maxLen; omega) (by omega) (by simp) ?_; intro v' w2 hown hgrow hnz; have HO := Lib.hid hown; have HG := Lib.hid hgrow; clear hown hgrow hnz hemp))
  go_ret
  have BB : Below w.heap.size w w2 := ((Below.refl _ w).alloc (Nat.le_refl _) _).grown HG.out (by simp) (fun r e => Nat.le_of_eq (Option.some.inj (show some w.heap.size = some r from e)))
  rcases HO.out.2 with ⟨_, h⟩ | ⟨g', cap, cur, rfl, h1, h2, h3, h4, h5, h6⟩
  · omega
  · refine ⟨⟨g', cap, cur.toList.drop (k * 1), by simp, ?_, h1⟩, BB⟩
    unfold Blk
    rw [h2]
    simp only [List.nil_append, Nat.zero_add] at h6
    rw [← h6, List.take_append_drop]

/-- what the numbers' map holds behind k stores -/
def mapTo : Nat → DataW Unit
  | 0 => .map []
  | k + 1 => (mapTo k).put (.int .i64 (k : Int)) (.lit (.int .i64 (k : Int)))
def ints16 : List Value := (List.range 16).map i64
set_option maxRecDepth 100000 in
set_option maxHeartbeats 1000000 in
theorem gmapNew_any (w : World) (g c : Nat) (rest : List Value) (hb : Blk w g 3 (ints16 ++ rest)) :
    Calls Tryz.prog 47 #[.slice (some ⟨g, 0, none⟩) 16 c, .int .i64 16] w
      fun e w' => (∃ gp hb mb cap sp, e = .returned (.pointer (some ⟨gp, 0, none⟩)) ∧ Blk w' gp 200 [.slice (some ⟨hb, 0, none⟩) 16 cap, .map (some mb)] ∧ Blk w' hb 3 (ints16 ++ sp) ∧ w.heap.size ≤ gp ∧ w.heap.size ≤ hb) ∧ Below w.heap.size w w' := by
  have hmk := mk_map
  have hcl := fun W (h : Blk W g 3 (ints16 ++ rest)) => clone_any W g c 16 ints16 rest h rfl (by omega) (by omega) (by intro u hu; unfold ints16 at hu; simp at hu; obtain ⟨a, _, rfl⟩ := hu; rfl)
  have hcell : ∀ W, Blk W g 3 (ints16 ++ rest) → ∀ k, k < 16 → W.cell? ⟨g, k, none⟩ = some (.int .i64 (k : Int)) := by
    intro W h k hk
    refine h.cell ?_
    rw [List.getElem?_append_left (by unfold ints16; simpa using hk)]
    simp [ints16, i64, hk]
  obtain ⟨xs, hxs⟩ : ∃ xs, ints16 = xs := ⟨_, rfl⟩
  rw [hxs] at hcl hcell hb ⊢
  have hsz : Maps.size (mapTo 16) = 16 := by rfl
  have H0 := Lib.hid hb
  have HCL := Lib.hid hcl
  have HC := Lib.hid hcell
  have HZ := Lib.hid hsz
  have lg := hb.lt
  clear hb hcl hcell hxs hsz
  go_enter Tryz.func47, Tryz.ntmps47
  go_wp2_with fail
  go_loopw [29] (fun i wr => ∃ k : Nat, k ≤ 16 ∧ i = .int .i64 k ∧ wr.ownsMap Tryz.prog 3 (plainElem Tryz.prog 3) w.heap.size k (mapTo k) ∧ Below w.heap.size w wr) (fun i _ => 16 - (intOf i).toNat)
  case atStart => exact ⟨0, by omega, rfl, World.ownsMap_made _ _ _ _, (Below.refl _ w).alloc (Nat.le_refl _) _⟩
  case round =>
    obtain ⟨k, hk, rfl, hown, hB⟩ := hrel
    by_cases h16 : k < 16
    · have hc := HC.out wr (H0.out.past hB) k h16
      have HO := Lib.hid hown
      have hk0 : (0 : Int) ≤ (k : Int) := by omega
      have hk1 : (k : Int) < 16 := by omega
      have hkk : keyOf Tryz.prog 3 (.int .i64 (k : Int)) = some (.int .i64 (k : Int)) := keyOf_int_mk Tryz.underlying3 (WalkArith.wf_i64 (by omega))
      have hvv : plainElem (H := Unit) Tryz.prog 3 (.int .i64 (k : Int)) = some (.lit (.int .i64 (k : Int)), []) := plainElem_int Tryz.underlying3 (WalkArith.wf_i64 (by omega))
      have HKK := Lib.hid hkk
      have HVV := Lib.hid hvv
      clear hkk hvv
      clear hown
      go_wp2_with (first
        | (at_mapUpdate; refine wpList_mapUpdate_in _ rfl _ _ _ 198 rfl 3 3 key_int Tryz.underlying198 (plainElem Tryz.prog 3) w.heap.size k (mapTo k) rfl HO.out (by unfold maxLen; omega) _ _ (.int .i64 (k : Int)) rfl rfl HKK.out (.lit (.int .i64 (k : Int))) [] HVV.out ?_; intro w3 hown3 hturn3; have HO3 := Lib.hid hown3; have HT3 := Lib.hid hturn3; clear hown3 hturn3))
      go_roundw
      case rel => exact ⟨k + 1, by omega, by simp, HO3.out, hB.grown HT3.out.grown hB.size (fun r e => Nat.le_of_eq (Option.some.inj e))⟩
      case measure => simp [intOf]; omega
    · obtain rfl : k = 16 := by omega
      have HO := Lib.hid hown
      clear hown
      go_wp2_with (first
        | (at_len; refine wpList_len_own _ rfl _ 198 rfl 3 3 Tryz.underlying198 (plainElem Tryz.prog 3) w.heap.size 16 (mapTo 16) rfl HO.out ?_; rw [HZ.out])
        | (go_at_call 100; refine (HCL.out _ (H0.out.past hB)).mono ?_; rintro e W ⟨⟨hb, cap, sp, rfl, hrow, hge⟩, hBc⟩; have hsz := hBc.size; have hrl := hrow.lt))
      go_ret
      have hs1 := hB.size
      refine ⟨⟨W.heap.size, hb, w.heap.size, cap, sp, rfl, Blk.new _ _ [_, _], hrow.alloc _, by omega, by omega⟩, ?_⟩
      exact (hB.trans (hBc.mono hB.size)).alloc (by omega) _
end Go.Proofs.YtglohconhbcchaaGreatDoor

namespace Go.Proofs.YtglohconhbcchaaGreatDoor
open Go.RowKit

/-- A slice of Puts, that is read. -/
def Ps (w : World) (a : Option Addr) (l : List (Int × Int × Nat)) : Prop :=
  l = [] ∨ ∃ b off, a = some ⟨b, off, none⟩ ∧ b < w.heap.size ∧ ∀ j, j < l.length → (l.getD j (0, 0, 0)).2.2 < 2 ^ 64 ∧
    w.cell? ⟨b, off + j * 3, none⟩ = some (.int .i64 (l.getD j (0, 0, 0)).1) ∧ w.cell? ⟨b, off + j * 3 + 1, none⟩ = some (.int .i64 (l.getD j (0, 0, 0)).2.1) ∧ w.cell? ⟨b, off + j * 3 + 2, none⟩ = some (.int .u64 ((l.getD j (0, 0, 0)).2.2 : Int))
theorem Ps.below {w w' : World} {a : Option Addr} {l : List (Int × Int × Nat)} (h : Ps w a l) (hb : Below w.heap.size w w') : Ps w' a l := by
  rcases h with h | ⟨b, off, h1, h2, h3⟩
  · exact .inl h
  · refine .inr ⟨b, off, h1, Nat.lt_of_lt_of_le h2 hb.size, fun j hj => ?_⟩
    obtain ⟨y0, y1, y2, y3⟩ := h3 j hj
    exact ⟨y0, (hb.cell (p := ⟨b, _, none⟩) h2).trans y1, (hb.cell (p := ⟨b, _, none⟩) h2).trans y2, (hb.cell (p := ⟨b, _, none⟩) h2).trans y3⟩
theorem Kept.undrawn {B : Nat} {S : Nat → Prop} {a w : World} {n : Nat} (h : Kept B S (a.drewN n) w) : Kept B S a w := ⟨h.os, h.tape, h.output, h.size, h.block⟩
def h16 : List Nat := List.range 16
def put1 (m : List Nat) (x : Int × Int × Nat) : List Nat := wr h16 m x.1 x.2.1 x.2.2
def puts (l : List (Int × Int × Nat)) : List Nat := l.foldl put1 (List.replicate 128 0)
theorem puts_take (l : List (Int × Int × Nat)) (k : Nat) (hk : k < l.length) : puts (l.take (k + 1)) = put1 (puts (l.take k)) (l.getD k (0, 0, 0)) := by
  unfold puts
  rw [List.take_add_one, List.getElem?_eq_getElem hk, List.foldl_append]
  simp [List.getD, List.getElem?_eq_getElem hk]

theorem row16 {W : World} {base : Nat} {v : Value} (h : W.ownsRow base 3 1 v 16 ((List.range 16).map i64)) : ∃ g cp rest, v = .slice (some ⟨g, 0, none⟩) 16 cp ∧ Blk W g 3 (ints16 ++ rest) := by
  rcases h.2 with ⟨_, h⟩ | ⟨g, cap, cur, rfl, h1, h2, h3, h4, h5, h6⟩
  · omega
  · refine ⟨g, cap, cur.toList.drop (16 * 1), rfl, ?_⟩
    unfold Blk ints16
    rw [h2, ← h6, List.take_append_drop]
end Go.Proofs.YtglohconhbcchaaGreatDoor
