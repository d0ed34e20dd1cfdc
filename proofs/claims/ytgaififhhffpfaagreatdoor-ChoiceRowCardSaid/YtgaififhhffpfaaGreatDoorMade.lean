/- The laws' Made: a guest of 16 frames with words. -/
import Derived.Test.YtgaififhhffpfaaGreatDoorNews
import Derived.Test.YtgaififhhffpfaaGreatDoorRegIn
import Derived.Deep.QuietTactic
import Derived.Maps.AppendAt
namespace Go.Proofs.YtgaififhhffpfaaGreatDoor
open Go.RowKit

/-- A slice of Puts, that is read. -/
def Ps (w : World) (a : Option Addr) (l : List (Int × Int × Nat)) : Prop :=
  l = [] ∨ ∃ b off, a = some ⟨b, off, none⟩ ∧ b < w.heap.size ∧ ∀ j, j < l.length → (l.getD j (0, 0, 0)).2.2 < 2 ^ 64 ∧
    w.cell? ⟨b, off + j * 3, none⟩ = some (.int .i64 (l.getD j (0, 0, 0)).1) ∧ w.cell? ⟨b, off + j * 3 + 1, none⟩ = some (.int .i64 (l.getD j (0, 0, 0)).2.1) ∧ w.cell? ⟨b, off + j * 3 + 2, none⟩ = some (.int .u64 ((l.getD j (0, 0, 0)).2.2 : Int))
theorem Ps.below {w w' : World} {a : Option Addr} {l : List (Int × Int × Nat)} (h : Ps w a l) (hb : Below w.heap.size w w') : Ps w' a l := by
  rcases h with h | ⟨b, off, h1, h2, h3⟩
  · exact .inl h
  · refine .inr ⟨b, off, h1, Nat.lt_of_lt_of_le h2 hb.size, fun j hj => ?_⟩
    obtain ⟨y0, y1, y2, y3⟩ := h3 j hj
    exact ⟨y0, (hb.cell (p := ⟨b, _, none⟩) h2).trans y1, (hb.cell (p := ⟨b, _, none⟩) h2).trans y2, (hb.cell (p := ⟨b, _, none⟩) h2).trans y3⟩
theorem Kept.undrawn {B : Nat} {S : Nat → Prop} {a w : World} {n : Nat} (h : Kept B S (a.drewN n) w) : Kept B S a w := ⟨h.os, h.tape, h.output, h.size, h.block⟩
def h16 : List Nat := List.range 16
def put1 (m : List Nat) (x : Int × Int × Nat) : List Nat := wr h16 m x.1 x.2.1 x.2.2
def puts (l : List (Int × Int × Nat)) : List Nat := l.foldl put1 (List.replicate 128 0)
theorem puts_take (l : List (Int × Int × Nat)) (k : Nat) (hk : k < l.length) : puts (l.take (k + 1)) = put1 (puts (l.take k)) (l.getD k (0, 0, 0)) := by
  unfold puts
  rw [List.take_add_one, List.getElem?_eq_getElem hk, List.foldl_append]
  simp [List.getD, List.getElem?_eq_getElem hk]

theorem row16 {W : World} {base : Nat} {v : Value} (h : W.ownsRow base 3 1 v 16 ((List.range 16).map i64)) : ∃ g cp rest, v = .slice (some ⟨g, 0, none⟩) 16 cp ∧ Blk W g 3 (ints16 ++ rest) := by
  rcases h.2 with ⟨_, h⟩ | ⟨g, cap, cur, rfl, h1, h2, h3, h4, h5, h6⟩
  · omega
  · refine ⟨g, cap, cur.toList.drop (16 * 1), rfl, ?_⟩
    unfold Blk ints16
    rw [h2, ← h6, List.take_append_drop]
set_option maxRecDepth 100000 in
set_option maxHeartbeats 2000000 in
theorem made_any (w : World) (a : Option Addr) (c : Nat) (l : List (Int × Int × Nat)) (hp : Ps w a l) (hlen : l.length ≤ 9223372036854775807) :
    Calls Tryz.prog 15 #[.slice a l.length c] w
      fun e w' => (∃ p fb, e = .returned (.pointer (some ⟨p, 0, none⟩)) ∧ GM w' p fb h16 16 (puts l) ∧ w.heap.size ≤ p ∧ w.heap.size ≤ fb) ∧ Below w.heap.size w w' := by
  obtain ⟨len, hl⟩ : ∃ len, l.length = len := ⟨_, rfl⟩
  rw [hl] at hlen ⊢
  obtain ⟨i0, hi, hz0, hz1, hz2⟩ := info_parts info_int
  have HP := Lib.hid hp
  have HL := Lib.hid hl
  have H1 := Lib.hid hi
  have HZ0 := Lib.hid hz0
  have HZ1 := Lib.hid hz1
  have HZ2 := Lib.hid hz2
  clear hp hl hi hz0 hz1 hz2
  go_enter Tryz.func15, Tryz.ntmps15
  go_wp2_with fail
  go_loopw [3, 4] (fun v i wr => ∃ k : Nat, k ≤ 16 ∧ i = .int .i64 k ∧ wr.ownsRow w.heap.size 3 1 v k ((List.range k).map i64) ∧ Below w.heap.size w wr) (fun _ i _ => 16 - (intOf i).toNat)
  case atStart => exact ⟨0, by omega, rfl, World.ownsRow_nil _ _ _ _, Below.refl _ _⟩
  case round =>
    obtain ⟨k, hk, rfl, hown, hB⟩ := hrel
    have hs1 := hB.size
    by_cases h16 : k < 16
    · have HO := Lib.hid hown
      have hnc := cell_one_new wr (.int .i64 (k : Int)) 3
      have HN := Lib.hid hnc
      clear hown hnc
      go_wp2_with (first
        | (at_builtin; refine wpList_append_own _ rfl _ _ 95 rfl w.heap.size 3 i0 _ 1 8 Tryz.underlying95 H1.out HZ0.out HZ1.out HZ2.out rfl (by decide) _ _ _ rfl (HO.out.alloc _) ⟨wr.heap.size, 0, none⟩ 1 1 [.int .i64 (k : Int)] rfl rfl HN.out (fun x hx => by simp at hx; subst hx; rfl) (by unfold maxLen; omega) (by omega) (by simp; omega) ?_; intro v' w3 hown' hgrow3 hnil3; have HO3 := Lib.hid hown'; have HG3 := Lib.hid hgrow3; clear hown' hgrow3 hnil3))
      go_roundw
      case rel =>
        refine ⟨k + 1, by omega, by simp, ?_, (hB.alloc hB.size _).grown HG3.out (by simp; omega) (fun r e => ?_)⟩
        · rw [List.range_succ, List.map_append]; exact HO3.out
        · exact ((HO.out.alloc (.cells #[.int .i64 (k : Int)] 3)).lt r e).1
      case measure => simp [intOf]; omega
    · obtain rfl : k = 16 := by omega
      obtain ⟨g, cp, rest, rfl, hrow⟩ := row16 hown
      have HR := Lib.hid hrow
      clear hown hrow h16
      go_wp2_with (first
        | (go_at_call 55; refine (frameNew_any _).mono ?_; rintro e W1 ⟨⟨fp, fb, rfl, hH, q1, q2⟩, hB1⟩)
        | (go_at_call 56; refine (gmapNew_any _ g cp rest (HR.out.past hB1)).mono ?_; rintro e W2 ⟨⟨gp, hb, mb, cap, sp, rfl, hg1, hg2, q3, q4⟩, hB2⟩)
        | (go_at_call 57; refine (guestNew_any _ _ _).mono ?_; rintro e W3 ⟨rfl, rfl⟩))
      have e1 := hB1.size
      have e2 := hB2.size
      have bN : Below W2.heap.size W2 (W2.alloc (.cells #[.pointer (some ⟨gp, 0, none⟩), .pointer (some ⟨fp, 0, none⟩)] 120)) := (Below.refl _ W2).alloc (Nat.le_refl _) _
      have M0 : GM (W2.alloc (.cells #[.pointer (some ⟨gp, 0, none⟩), .pointer (some ⟨fp, 0, none⟩)] 120)) W2.heap.size fb h16 16 (puts []) :=
        ⟨gp, hb, mb, fp, cap, (hH.past hB2).past bN, Blk.new W2 120 [.pointer (some ⟨gp, 0, none⟩), .pointer (some ⟨fp, 0, none⟩)], hg1.alloc _, ⟨sp, hg2.alloc _⟩, by decide, by intro h hh; unfold h16 at hh; simpa using hh⟩
      have BN : Below w.heap.size w (W2.alloc (.cells #[.pointer (some ⟨gp, 0, none⟩), .pointer (some ⟨fp, 0, none⟩)] 120)) := (hB.trans ((hB1.mono hB.size).trans (hB2.mono (by omega)))).alloc (by omega) _
      have qp : w.heap.size ≤ W2.heap.size := by omega
      have qf : w.heap.size ≤ fb := by omega
      obtain ⟨WN, hWN⟩ : ∃ WN, W2.alloc (.cells #[.pointer (some ⟨gp, 0, none⟩), .pointer (some ⟨fp, 0, none⟩)] 120) = WN := ⟨_, rfl⟩
      obtain ⟨p, hp⟩ : ∃ p, W2.heap.size = p := ⟨_, rfl⟩
      rw [hWN] at M0 BN ⊢
      rw [hp] at M0 qp ⊢
      clear hWN hp bN hg1 hg2 hH hB hB1 hB2 q1 q2 q3 q4 e1 e2 HR H1 HZ0 HZ1 HZ2 hs1
      go_loopw [8] (fun i wr => ∃ k : Nat, k ≤ len ∧ i = .int .i64 k ∧ GM wr p fb h16 16 (puts (l.take k)) ∧ Below w.heap.size w wr) (fun i _ => len - (intOf i).toNat)
      case atStart => exact ⟨0, by omega, rfl, by simpa using M0, BN⟩
      case round =>
        obtain ⟨k, hk, rfl, M, hB⟩ := hrel
        clear M0 BN
        by_cases hkl : k < len
        · obtain ⟨b, off, rfl, hb1, hcs⟩ : ∃ b off, a = some ⟨b, off, none⟩ ∧ b < w.heap.size ∧ ∀ j, j < l.length → (l.getD j (0, 0, 0)).2.2 < 2 ^ 64 ∧
              w.cell? ⟨b, off + j * 3, none⟩ = some (.int .i64 (l.getD j (0, 0, 0)).1) ∧ w.cell? ⟨b, off + j * 3 + 1, none⟩ = some (.int .i64 (l.getD j (0, 0, 0)).2.1) ∧ w.cell? ⟨b, off + j * 3 + 2, none⟩ = some (.int .u64 ((l.getD j (0, 0, 0)).2.2 : Int)) := by
            rcases HP.out with h | h
            · rw [h] at HL; have := HL.out; simp at this; omega
            · exact h
          obtain ⟨hv, c0, c1, c2⟩ := hcs k (by rw [HL.out]; exact hkl)
          have hnext := puts_take l k (by rw [HL.out]; exact hkl)
          obtain ⟨⟨x1, x2, x3⟩, hx⟩ : ∃ x, l.getD k (0, 0, 0) = x := ⟨_, rfl⟩
          rw [hx] at hv c0 c1 c2 hnext
          dsimp only [put1] at hv c0 c1 c2 hnext
          have HN := Lib.hid hnext
          obtain ⟨mk, hmk⟩ : ∃ mk, puts (l.take k) = mk := ⟨_, rfl⟩
          rw [hmk] at M HN
          have HM := Lib.hid M
          have C0 := Lib.hid c0
          have C1 := Lib.hid c1
          have C2 := Lib.hid c2
          clear c0 c1 c2
          have c0 := (hB.cell (p := ⟨b, _, none⟩) hb1).trans C0.out
          have c1 := (hB.cell (p := ⟨b, _, none⟩) hb1).trans C1.out
          have c2 := (hB.cell (p := ⟨b, _, none⟩) hb1).trans C2.out
          clear hcs hx hnext M hmk hk
          go_wp2_with fail
          go_region_held3 (fun w' => w'.cell? ⟨b, off + k * 3, none⟩ = some (.int .i64 x1) ∧ w'.cell? ⟨b, off + k * 3 + 1, none⟩ = some (.int .i64 x2) ∧ w'.cell? ⟨b, off + k * 3 + 2, none⟩ = some (.int .u64 (x3 : Int))) (go_keep) (first | (go_at_call 42; refine (gm_set (HM.out.past (below_of_drewN _ 1)) x1 x2 x3 hv).mono ?_; rintro e W3 ⟨rfl, hM3, hK3', hS3⟩; have hK3 := hK3'.undrawn; have hB3 := hB.trans ((hK3.mono (B' := w.heap.size) (S' := fun k => k = fb) hB.size (fun _ _ h => h)).below (fun k' hk' e => by omega)); have f0 := (hB3.cell (p := ⟨b, off + k * 3, none⟩) hb1).trans C0.out; have f1 := (hB3.cell (p := ⟨b, off + k * 3 + 1, none⟩) hb1).trans C1.out; have f2 := (hB3.cell (p := ⟨b, off + k * 3 + 2, none⟩) hb1).trans C2.out))
          all_goals go_wp2
          all_goals go_roundw
          case rel => exact ⟨k + 1, by omega, by simp, by rw [HN.out]; exact hM3, hB3⟩
          case measure => simp [intOf]; omega
        · obtain rfl : k = len := by omega
          go_wp2
          go_ret
          refine ⟨⟨p, fb, rfl, ?_, qp, qf⟩, hB⟩
          rw [← HL.out, List.take_length] at M
          exact M
end Go.Proofs.YtgaififhhffpfaaGreatDoor
