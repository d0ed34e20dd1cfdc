/- The document's New's, All, and the law's Plain: the document's memory with words. -/
import Derived.Test.YtlldbfpccdmclaaDoorRefM
import Derived.Test.YtlldbfpccdmclaaDoorAll
import Derived.Deep.AppendLies
namespace Go.Proofs.YtlldbfpccdmclaaDoor
open Go.RowKit

theorem mk_rwords (w : World) : (Instr.makeSlice 66 (.int .i64 128) (.int .i64 128)).run Tryd.prog w = .ok (.slice (some ⟨w.heap.size, 0, none⟩) 128 128) (w.alloc (.cells (u64s 128).toArray 36)) := by kernel_rfl
theorem rhostNew_any (w : World) :
    Calls Tryd.prog 46 #[.int .i64 16] w
      fun e w' => (∃ hp wb, e = .returned (.pointer (some ⟨hp, 0, none⟩)) ∧ RHost w' hp wb 16 (List.replicate 128 0) ∧ w.heap.size ≤ hp ∧ w.heap.size ≤ wb) ∧ Below w.heap.size w w' := by
  have h1 := mk_rwords
  have h2 := Blk.new w 36 (u64s 128)
  have h3 := Blk.new (w.alloc (.cells (u64s 128).toArray 36)) 134 [.slice (some ⟨w.heap.size, 0, none⟩) 128 128]
  have H2 := Lib.hid h2
  have H3 := Lib.hid h3
  clear h2 h3
  obtain ⟨us, hus⟩ : ∃ us, u64s 128 = us := ⟨_, rfl⟩
  rw [hus] at h1 H2 H3
  have HU := Lib.hid hus
  clear hus
  go_enter Tryd.func46, Tryd.ntmps46
  go_wp2
  go_ret
  refine ⟨⟨w.heap.size + 1, w.heap.size, rfl, ⟨?_, ?_, by simp, by omega, fun v hv => by simp at hv; omega⟩, by omega, by omega⟩, ((Below.refl _ _).alloc (Nat.le_refl _) _).alloc (by simp) _⟩
  · have := H3.out; simpa using this
  · have h := H2.out.alloc (.cells #[.slice (some ⟨w.heap.size, 0, none⟩) 128 128] 134)
    have e : List.map u64 (List.replicate 128 0) = us := by rw [← HU.out, List.map_replicate]; rfl
    rw [e]; exact h
theorem rguestNew_any (w : World) (hp mp : Nat) :
    Calls Tryd.prog 45 #[.pointer (some ⟨hp, 0, none⟩), .pointer (some ⟨mp, 0, none⟩)] w
      fun e w' => e = .returned (.pointer (some ⟨w.heap.size, 0, none⟩)) ∧ w' = w.alloc (.cells #[.pointer (some ⟨hp, 0, none⟩), .pointer (some ⟨mp, 0, none⟩)] 132) := by
  go_enter Tryd.func45, Tryd.ntmps45
  go_wp2
  go_ret
  exact ⟨rfl, rfl⟩
set_option maxRecDepth 100000 in
set_option maxHeartbeats 2000000 in
theorem rmapNew_any (w : World) (g c : Nat) (rest : List Value) (hb : Blk w g 3 (ints16 ++ rest)) :
    Calls Tryd.prog 47 #[.slice (some ⟨g, 0, none⟩) 16 c, .int .i64 16] w
      fun e w' => (∃ mp sb cap sp, e = .returned (.pointer (some ⟨mp, 0, none⟩)) ∧ Blk w' mp 136 [.slice (some ⟨sb, 0, none⟩) 16 cap] ∧ Blk w' sb 3 (ints16 ++ sp) ∧ w.heap.size ≤ mp ∧ w.heap.size ≤ sb) ∧ Below w.heap.size w w' := by
  obtain ⟨i0, hi, hz0, hz1, hz2⟩ := info_parts info_int
  have hcell : ∀ W, Below w.heap.size w W → ∀ k, k < 16 → W.cell? ⟨g, k, none⟩ = some (.int .i64 (k : Int)) := by
    intro W h k hk
    refine (hb.past h).cell ?_
    rw [List.getElem?_append_left (by unfold ints16; simpa using hk)]
    simp [ints16, i64, hk]
  have hcells : ∀ W, Below w.heap.size w W → ∀ j u, ints16[j]? = some u → W.cell? ((⟨g, 0, none⟩ : Addr).add j) = some u := by
    intro W h j u hu
    rw [add0]
    refine (hb.past h).cell ?_
    rw [List.getElem?_append_left (List.getElem?_eq_some_iff.1 hu).1]; exact hu
  have hx : ∀ u ∈ ints16, u.oneCell' = true := by intro u hu; unfold ints16 at hu; simp at hu; obtain ⟨a, _, rfl⟩ := hu; rfl
  have hl : ints16.length = 16 := rfl
  obtain ⟨xs, hxs⟩ : ∃ xs, ints16 = xs := ⟨_, rfl⟩
  rw [hxs] at hcells hx hl ⊢
  have lg := hb.lt
  have HC := Lib.hid hcell
  have HCs := Lib.hid hcells
  have HX := Lib.hid hx
  have HL := Lib.hid hl
  have H1 := Lib.hid hi
  have HZ0 := Lib.hid hz0
  have HZ1 := Lib.hid hz1
  have HZ2 := Lib.hid hz2
  clear hcell hcells hx hl hi hz0 hz1 hz2 hxs hb
  go_enter Tryd.func47, Tryd.ntmps47
  go_wp2_with fail
  go_loopw [5] (fun i wr => ∃ k : Nat, k ≤ 16 ∧ i = .int .i64 k ∧ Below w.heap.size w wr) (fun i _ => 16 - (intOf i).toNat)
  case atStart => exact ⟨0, by omega, rfl, Below.refl _ _⟩
  case round =>
    obtain ⟨k, hk, rfl, hB⟩ := hrel
    have hsz := hB.size
    by_cases h16 : k < 16
    · have hc := HC.out wr hB k h16
      have hk0 : (0 : Int) ≤ (k : Int) := by omega
      have hk1 : (k : Int) < 16 := by omega
      obtain ⟨wo, hwo⟩ : ∃ wo : World, wo = wr := ⟨_, rfl⟩
      subst hwo
      go_wp2_with fail
      go_loopw [6] (fun i wq => ∃ j : Nat, j ≤ k ∧ i = .int .i64 j ∧ Below w.heap.size w wq) (fun i _ => k - (intOf i).toNat)
      case atStart => exact ⟨0, by omega, rfl, hB⟩
      case round =>
        obtain ⟨j, hj, rfl, hBq⟩ := hrel
        have hc1 := HC.out wr hBq k h16
        by_cases hjk : j < k
        · have hd1 := HC.out wr hBq j (by omega)
          have hne : ((j : Int) == (k : Int)) = false := beq_eq_false_iff_ne.2 (by omega)
          go_wp2_with fail
          go_quiet (fail)
          go_wp2
          go_roundw
          case rel => exact ⟨j + 1, by omega, by simp, hBq.trans (below_of_drewN _ _ |>.mono hBq.size)⟩
          case measure => simp [intOf]; omega
        · obtain rfl : j = k := by omega
          go_wp2_with fail
          go_roundw
          case rel => exact ⟨j + 1, by omega, by simp, hBq⟩
          case measure => simp [intOf]; omega
    · obtain rfl : k = 16 := by omega
      have hemp : (wr.alloc (.cells #[] 3)).ownsRow w.heap.size 3 1 (.slice (some ⟨wr.heap.size, 0, none⟩) 0 0) 0 [] := ⟨rfl, .inr ⟨wr.heap.size, 0, #[], rfl, hsz, heap_alloc_new wr _, Nat.le_refl _, by unfold maxLen; omega, rfl, rfl⟩⟩
      have hcc := HCs.out _ (hB.alloc hsz (.cells #[] 3))
      have HE := Lib.hid hemp
      have HCC := Lib.hid hcc
      clear hemp hcc
      go_wp2_with (first
        | (at_builtin; refine wpList_append_own _ rfl _ _ 74 rfl w.heap.size 3 i0 _ 1 8 Tryd.underlying74 H1.out HZ0.out HZ1.out HZ2.out rfl (by decide) _ 0 [] rfl HE.out ⟨g, 0, none⟩ 16 c xs rfl (by have := HL.out; omega) HCC.out HX.out (by unfold maxLen; omega) (by omega) (by simp; omega) ?_; intro v' w2 hown hgrow hnz; obtain ⟨g', cap, rfl, h1, h2⟩ := hown.form (by omega); have HO := Lib.hid hown; have HG := Lib.hid hgrow; clear hown hgrow hnz))
      go_ret
      have BB : Below w.heap.size w w2 := (hB.alloc hsz (.cells #[] 3)).grown HG.out (by simp; omega) (fun r e => by have : wr.heap.size = r := Option.some.inj (show some wr.heap.size = some r from e); omega)
      rcases HO.out.2 with ⟨_, h⟩ | ⟨g2, cap2, cur, hv, h1', h2, h3, h4, h5, h6⟩
      · omega
      · cases hv
        have hrow : Blk w2 g' 3 (xs ++ cur.toList.drop (16 * 1)) := by
          unfold Blk
          rw [h2]
          simp only [List.nil_append, Nat.zero_add] at h6
          rw [← h6, List.take_append_drop]
        exact ⟨⟨w2.heap.size, g', cap, _, rfl, Blk.new w2 136 [.slice (some ⟨g', 0, none⟩) 16 cap], hrow.alloc _, BB.size, h1⟩, BB.alloc BB.size _⟩

set_option maxRecDepth 100000 in
set_option maxHeartbeats 2000000 in
theorem plain_any (w : World) (a : Option Addr) (c : Nat) (l : List (Int × Int × Nat)) (hp : Ps w a l) (hlen : l.length ≤ 9223372036854775807) :
    Calls Tryd.prog 25 #[.slice a l.length c] w
      fun e w' => (∃ p wb, e = .returned (.pointer (some ⟨p, 0, none⟩)) ∧ RM w' p wb h16 16 (puts l) ∧ w.heap.size ≤ p ∧ w.heap.size ≤ wb) ∧ Below w.heap.size w w' := by
  obtain ⟨len, hl⟩ : ∃ len, l.length = len := ⟨_, rfl⟩
  rw [hl] at hlen ⊢
  obtain ⟨i0, hi, hz0, hz1, hz2⟩ := info_parts info_int
  have HP := Lib.hid hp
  have HL := Lib.hid hl
  have H1 := Lib.hid hi
  have HZ0 := Lib.hid hz0
  have HZ1 := Lib.hid hz1
  have HZ2 := Lib.hid hz2
  clear hp hl hi hz0 hz1 hz2
  go_enter Tryd.func25, Tryd.ntmps25
  go_wp2_with fail
  go_loopw [3, 4] (fun v i wr => ∃ k : Nat, k ≤ 16 ∧ i = .int .i64 k ∧ wr.ownsRow w.heap.size 3 1 v k ((List.range k).map i64) ∧ Below w.heap.size w wr) (fun _ i _ => 16 - (intOf i).toNat)
  case atStart => exact ⟨0, by omega, rfl, World.ownsRow_nil _ _ _ _, Below.refl _ _⟩
  case round =>
    obtain ⟨k, hk, rfl, hown, hB⟩ := hrel
    have hs1 := hB.size
    by_cases h16 : k < 16
    · have HO := Lib.hid hown
      have hnc := cell_one_new wr (.int .i64 (k : Int)) 3
      have HN := Lib.hid hnc
      clear hown hnc
      go_wp2_with (first
        | (at_builtin; refine wpList_append_own _ rfl _ _ 74 rfl w.heap.size 3 i0 _ 1 8 Tryd.underlying74 H1.out HZ0.out HZ1.out HZ2.out rfl (by decide) _ _ _ rfl (HO.out.alloc _) ⟨wr.heap.size, 0, none⟩ 1 1 [.int .i64 (k : Int)] rfl rfl HN.out (fun x hx => by simp at hx; subst hx; rfl) (by unfold maxLen; omega) (by omega) (by simp; omega) ?_; intro v' w3 hown' hgrow3 hnil3; have HO3 := Lib.hid hown'; have HG3 := Lib.hid hgrow3; clear hown' hgrow3 hnil3))
      go_roundw
      case rel =>
        refine ⟨k + 1, by omega, by simp, ?_, (hB.alloc hB.size _).grown HG3.out (by simp; omega) (fun r e => ?_)⟩
        · rw [List.range_succ, List.map_append]; exact HO3.out
        · exact ((HO.out.alloc (.cells #[.int .i64 (k : Int)] 3)).lt r e).1
      case measure => simp [intOf]; omega
    · obtain rfl : k = 16 := by omega
      obtain ⟨g, cp, rest, rfl, hrow⟩ := row16 hown
      have HR := Lib.hid hrow
      clear hown hrow h16
      go_wp2_with (first
        | (go_at_call 46; refine (rhostNew_any _).mono ?_; rintro e W1 ⟨⟨hp, wb, rfl, hH, q1, q2⟩, hB1⟩)
        | (go_at_call 47; refine (rmapNew_any _ g cp rest (HR.out.past hB1)).mono ?_; rintro e W2 ⟨⟨mp, sb, cap, sp, rfl, hg1, hg2, q3, q4⟩, hB2⟩)
        | (go_at_call 45; refine (rguestNew_any _ _ _).mono ?_; rintro e W3 ⟨rfl, rfl⟩))
      have e1 := hB1.size
      have e2 := hB2.size
      have bN : Below W2.heap.size W2 (W2.alloc (.cells #[.pointer (some ⟨hp, 0, none⟩), .pointer (some ⟨mp, 0, none⟩)] 132)) := (Below.refl _ W2).alloc (Nat.le_refl _) _
      have M0 : RM (W2.alloc (.cells #[.pointer (some ⟨hp, 0, none⟩), .pointer (some ⟨mp, 0, none⟩)] 132)) W2.heap.size wb h16 16 (puts []) :=
        ⟨hp, mp, sb, cap, ⟨(hH.hdr.past hB2).past bN, (hH.row.past hB2).past bN, hH.len, hH.small, hH.bd⟩, Blk.new W2 132 [.pointer (some ⟨hp, 0, none⟩), .pointer (some ⟨mp, 0, none⟩)], hg1.alloc _, ⟨sp, hg2.alloc _⟩, by decide, by intro h hh; unfold h16 at hh; simpa using hh⟩
      have BN : Below w.heap.size w (W2.alloc (.cells #[.pointer (some ⟨hp, 0, none⟩), .pointer (some ⟨mp, 0, none⟩)] 132)) := (hB.trans ((hB1.mono hB.size).trans (hB2.mono (by omega)))).alloc (by omega) _
      have qp : w.heap.size ≤ W2.heap.size := by omega
      have qf : w.heap.size ≤ wb := by omega
      obtain ⟨WN, hWN⟩ : ∃ WN, W2.alloc (.cells #[.pointer (some ⟨hp, 0, none⟩), .pointer (some ⟨mp, 0, none⟩)] 132) = WN := ⟨_, rfl⟩
      obtain ⟨p, hpp⟩ : ∃ p, W2.heap.size = p := ⟨_, rfl⟩
      rw [hWN] at M0 BN ⊢
      rw [hpp] at M0 qp ⊢
      clear hWN hpp bN hg1 hg2 hH hB hB1 hB2 q1 q2 q3 q4 e1 e2 HR H1 HZ0 HZ1 HZ2 hs1
      go_loopw [6] (fun i wr => ∃ k : Nat, k ≤ len ∧ i = .int .i64 k ∧ RM wr p wb h16 16 (puts (l.take k)) ∧ Below w.heap.size w wr) (fun i _ => len - (intOf i).toNat)
      case atStart => exact ⟨0, by omega, rfl, by simpa using M0, BN⟩
      case round =>
        obtain ⟨k, hk, rfl, M, hB⟩ := hrel
        clear M0 BN
        by_cases hkl : k < len
        · obtain ⟨b, off, rfl, hb1, hcs⟩ : ∃ b off, a = some ⟨b, off, none⟩ ∧ b < w.heap.size ∧ ∀ j, j < l.length → (l.getD j (0, 0, 0)).2.2 < 2 ^ 64 ∧
              w.cell? ⟨b, off + j * 3, none⟩ = some (.int .i64 (l.getD j (0, 0, 0)).1) ∧ w.cell? ⟨b, off + j * 3 + 1, none⟩ = some (.int .i64 (l.getD j (0, 0, 0)).2.1) ∧ w.cell? ⟨b, off + j * 3 + 2, none⟩ = some (.int .u64 ((l.getD j (0, 0, 0)).2.2 : Int)) := by
            rcases HP.out with h | h
            · rw [h] at HL; have := HL.out; simp at this; omega
            · exact h
          obtain ⟨hv, c0, c1, c2⟩ := hcs k (by rw [HL.out]; exact hkl)
          have hnext := puts_take l k (by rw [HL.out]; exact hkl)
          obtain ⟨⟨x1, x2, x3⟩, hx⟩ : ∃ x, l.getD k (0, 0, 0) = x := ⟨_, rfl⟩
          rw [hx] at hv c0 c1 c2 hnext
          dsimp only [put1] at hv c0 c1 c2 hnext
          have HN := Lib.hid hnext
          obtain ⟨mk, hmk⟩ : ∃ mk, puts (l.take k) = mk := ⟨_, rfl⟩
          rw [hmk] at M HN
          have HM := Lib.hid M
          have C0 := Lib.hid c0
          have C1 := Lib.hid c1
          have C2 := Lib.hid c2
          clear c0 c1 c2
          have c0 := (hB.cell (p := ⟨b, _, none⟩) hb1).trans C0.out
          have c1 := (hB.cell (p := ⟨b, _, none⟩) hb1).trans C1.out
          have c2 := (hB.cell (p := ⟨b, _, none⟩) hb1).trans C2.out
          clear hcs hx hnext M hmk hk
          go_wp2_with fail
          go_region_held3 (fun w' => w'.cell? ⟨b, off + k * 3, none⟩ = some (.int .i64 x1) ∧ w'.cell? ⟨b, off + k * 3 + 1, none⟩ = some (.int .i64 x2) ∧ w'.cell? ⟨b, off + k * 3 + 2, none⟩ = some (.int .u64 (x3 : Int))) (go_keep) (first | (go_at_call 48; refine (rmset_any (HM.out.past (below_of_drewN _ 1)) x1 x2 x3 hv).mono ?_; rintro e W3 ⟨⟨sb', rfl⟩, hM3, hK3', hS3⟩; have hK3 := hK3'.undrawn; have hB3 := hB.trans ((hK3.mono (B' := w.heap.size) (S' := fun k => k = wb) hB.size (fun _ _ h => h)).below (fun k' hk' e => by omega)); have f0 := (hB3.cell (p := ⟨b, off + k * 3, none⟩) hb1).trans C0.out; have f1 := (hB3.cell (p := ⟨b, off + k * 3 + 1, none⟩) hb1).trans C1.out; have f2 := (hB3.cell (p := ⟨b, off + k * 3 + 2, none⟩) hb1).trans C2.out))
          all_goals go_wp2
          all_goals go_roundw
          case rel => exact ⟨k + 1, by omega, by simp, by rw [HN.out]; exact hM3, hB3⟩
          case measure => simp [intOf]; omega
        · obtain rfl : k = len := by omega
          go_wp2
          go_ret
          refine ⟨⟨p, wb, rfl, ?_, qp, qf⟩, hB⟩
          rw [← HL.out, List.take_length] at M
          exact M

set_option maxRecDepth 100000 in
set_option maxHeartbeats 2000000 in
theorem rall_words (w : World) (p wb : Nat) (mem : List Nat) (M : RM w p wb h16 16 mem) (hl : mem.length = 128) :
    Calls Tryd.prog 33 #[.pointer (some ⟨p, 0, none⟩)] w
      fun e w' => (∃ v, e = .returned v ∧ Wd w' v mem) ∧ Below w.heap.size w w' := by
  obtain ⟨i0, hi, hz0, hz1, hz2⟩ := info_parts info_u64
  have hfr := fun W (M : RM W p wb h16 16 mem) => rmframes_any M
  rw [show h16.length = 16 from rfl] at hfr
  have MM := Lib.hid M
  have HFr := Lib.hid hfr
  have H1 := Lib.hid hi
  have HZ0 := Lib.hid hz0
  have HZ1 := Lib.hid hz1
  have HZ2 := Lib.hid hz2
  have HL := Lib.hid hl
  clear hi hz0 hz1 hz2 M hl hfr
  go_enter Tryd.func33, Tryd.ntmps33
  go_wp2_with fail
  go_loopw [3, 4] (fun v i wr => ∃ k : Nat, k ≤ 16 ∧ i = .int .i64 k ∧ wr.ownsRow w.heap.size 36 1 v (8 * k) ((mem.take (8 * k)).map u64) ∧ Below w.heap.size w wr) (fun _ i _ => 16 - (intOf i).toNat)
  case atStart => exact ⟨0, by omega, rfl, World.ownsRow_nil _ _ _ _, Below.refl _ _⟩
  case round =>
    obtain ⟨k, hk, rfl, hown, hB⟩ := hrel
    have HO := Lib.hid hown
    clear hown
    by_cases h16' : k < 16
    · have hd16 : decide ((k : Int) < 16) = true := by rw [decide_eq_true_iff]; omega
      have hk1 : (k : Int) < 16 := by omega
      obtain ⟨wo, hwo⟩ : ∃ wo : World, wo = wr := ⟨_, rfl⟩
      subst hwo
      go_wp2_with (go_at_call 51; (with_reducible refine (HFr.out _ (MM.out.past hB)).mono ?_); rintro e w' ⟨rfl, rfl⟩)
      clear hd16
      go_loopw [3, 5] (fun v i wq => ∃ j : Nat, j ≤ 8 ∧ i = .int .i64 j ∧ wq.ownsRow w.heap.size 36 1 v (8 * k + j) ((mem.take (8 * k + j)).map u64) ∧ Below w.heap.size w wq) (fun _ i _ => 8 - (intOf i).toNat)
      case atStart => exact ⟨0, by omega, rfl, by simpa using HO.out, hB⟩
      case round =>
        obtain ⟨j, hj, rfl, hown, hBq⟩ := hrel
        have HQ := Lib.hid hown
        have hsz := hBq.size
        clear hown
        by_cases hj8 : j < 8
        · have hg := rmget_any (MM.out.past hBq) (k : Int) (j : Int) _ (rd16_get HL.out k j h16' hj8)
          have hcol : (mem.take (8 * k + (j + 1))).map u64 = (mem.take (8 * k + j)).map u64 ++ [.int .u64 ((mem.getD (8 * k + j) 0 : Nat) : Int)] := by
            rw [← Nat.add_assoc, List.take_add_one, List.map_append]
            have hlt : 8 * k + j < mem.length := by rw [HL.out]; omega
            rw [List.getElem?_eq_getElem hlt, List.getD, List.getElem?_eq_getElem hlt]; rfl
          obtain ⟨x, hx⟩ : ∃ x, mem.getD (8 * k + j) 0 = x := ⟨_, rfl⟩
          rw [hx] at hg hcol
          have HGt := Lib.hid hg
          have HCl := Lib.hid hcol
          clear hcol hg hx
          go_wp2_with (first
            | (go_at_call 49; (with_reducible refine HGt.out.mono ?_); rintro e w' ⟨rfl, rfl⟩)
            | (at_builtin; refine wpList_append_own _ rfl _ _ 66 rfl w.heap.size 36 i0 _ 1 8 Tryd.underlying66 H1.out HZ0.out HZ1.out HZ2.out rfl (by decide) _ _ _ rfl (HQ.out.alloc _) ⟨wr.heap.size, 0, none⟩ 1 1 [.int .u64 (x : Int)] rfl rfl (cell_one_new _ _ _) (fun x hx => by simp at hx; subst hx; rfl) (by unfold maxLen; omega) (by omega) (by simp; omega) ?_; intro v' w3 hown' hgrow3 hnil3; have HO3 := Lib.hid hown'; have HG3 := Lib.hid hgrow3; clear hown' hgrow3 hnil3))
          go_roundw
          case rel =>
            refine ⟨j + 1, by omega, by simp, ?_, (hBq.alloc hsz _).grown HG3.out (by simp; omega) (fun r e => ?_)⟩
            · rw [HCl.out]; exact HO3.out
            · exact ((HQ.out.alloc (.cells #[.int .u64 (x : Int)] 36)).lt r e).1
          case measure => simp [intOf]; omega
        · obtain rfl : j = 8 := by omega
          go_wp2_with fail
          go_roundw
          case rel =>
            exact ⟨k + 1, by omega, by simp, by simpa [Nat.mul_add] using HQ.out, hBq⟩
          case measure => simp [intOf]; omega
    · obtain rfl : k = 16 := by omega
      go_wp2_with (go_at_call 51; (with_reducible refine (HFr.out _ (MM.out.past hB)).mono ?_); rintro e w' ⟨rfl, rfl⟩)
      go_ret
      refine ⟨⟨_, rfl, ?_⟩, hB⟩
      have ho := HO.out
      rw [List.take_of_length_le (by rw [HL.out]; omega)] at ho
      rcases ho.2 with ⟨h, _⟩ | ⟨g, cap, cur, rfl, h1, h2, h3, h4, h5, h6⟩
      · omega
      · refine ⟨g, cap, cur.toList.drop (8 * 16 * 1), by rw [HL.out]; rfl, ?_⟩
        unfold Blk
        rw [h2, ← h6, List.take_append_drop]
end Go.Proofs.YtlldbfpccdmclaaDoor
