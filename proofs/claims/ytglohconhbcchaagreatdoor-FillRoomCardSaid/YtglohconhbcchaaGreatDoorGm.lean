/- What a guard's world is made of: frame.New of 40 frames, gmap.New of the frames 24 to 39, tlb.New, free.New, store.New, guard.New, the law's list. The law's Made: a guard's world. -/
import Derived.Test.YtglohconhbcchaaGreatDoorGb
import Derived.Test.YtglohconhbcchaaGreatDoorMade
namespace Go.Proofs.YtglohconhbcchaaGreatDoor
open Go.RowKit Go.Shelf Go.Maps

theorem mk_frames40 (w : World) : (Instr.makeSlice 195 (.int .i64 40) (.int .i64 40)).run Tryz.prog w = .ok (.slice (some ⟨w.heap.size, 0, none⟩) 40 40) (w.alloc (.cells (u64s 320).toArray 247)) := by kernel_rfl
theorem frameNew40 (w : World) :
    Calls Tryz.prog 46 #[.int .i64 40] w
      fun e w' => (∃ fp fb, e = .returned (.pointer (some ⟨fp, 0, none⟩)) ∧ Host w' fp fb 40 (List.replicate 320 0) ∧ w.heap.size ≤ fp ∧ w.heap.size ≤ fb) ∧ Below w.heap.size w w' := by
  have h1 := mk_frames40
  have h2 := Blk.new w 247 (u64s 320)
  have h3 := Blk.new (w.alloc (.cells (u64s 320).toArray 247)) 197 [.slice (some ⟨w.heap.size, 0, none⟩) 40 40]
  have H2 := Lib.hid h2
  have H3 := Lib.hid h3
  clear h2 h3
  obtain ⟨us, hus⟩ : ∃ us, u64s 320 = us := ⟨_, rfl⟩
  rw [hus] at h1 H2 H3
  have HU := Lib.hid hus
  clear hus
  go_enter Tryz.func46, Tryz.ntmps46
  go_wp2
  go_ret
  refine ⟨⟨w.heap.size + 1, w.heap.size, rfl, ⟨?_, ?_, List.length_replicate, by omega, fun v hv => by rw [List.eq_of_mem_replicate hv]; decide⟩, by omega, by omega⟩, ((Below.refl _ _).alloc (Nat.le_refl _) _).alloc (by simp) _⟩
  · have := H3.out; simpa using this
  · have h := H2.out.alloc (.cells #[.slice (some ⟨w.heap.size, 0, none⟩) 40 40] 197)
    have e : List.map u64 (List.replicate 320 0) = us := by rw [← HU.out, List.map_replicate]; rfl
    rw [e]; exact h

def mapG : Nat → DataW Unit
  | 0 => .map []
  | k + 1 => (mapG k).put (.int .i64 (24 + (k : Int))) (.lit (.int .i64 (k : Int)))
def ints24 : List Value := (List.range 16).map fun (k : Nat) => .int .i64 (24 + (k : Int))
set_option maxRecDepth 100000 in
set_option maxHeartbeats 1000000 in
theorem gmapNew24 (w : World) (g c : Nat) (rest : List Value) (hb : Blk w g 3 (ints24 ++ rest)) :
    Calls Tryz.prog 47 #[.slice (some ⟨g, 0, none⟩) 16 c, .int .i64 40] w
      fun e w' => (∃ gp hb mb cap sp, e = .returned (.pointer (some ⟨gp, 0, none⟩)) ∧ Blk w' gp 200 [.slice (some ⟨hb, 0, none⟩) 16 cap, .map (some mb)] ∧ Blk w' hb 3 (ints24 ++ sp) ∧ w.heap.size ≤ gp ∧ w.heap.size ≤ hb) ∧ Below w.heap.size w w' := by
  have hmk := mk_map
  have hcl := fun W (h : Blk W g 3 (ints24 ++ rest)) => clone_any W g c 16 ints24 rest h rfl (by omega) (by omega) (by intro u hu; unfold ints24 at hu; simp at hu; obtain ⟨a, _, rfl⟩ := hu; rfl)
  have hcell : ∀ W, Blk W g 3 (ints24 ++ rest) → ∀ k, k < 16 → W.cell? ⟨g, k, none⟩ = some (.int .i64 (24 + (k : Int))) := by
    intro W h k hk
    refine h.cell ?_
    rw [List.getElem?_append_left (by unfold ints24; simpa using hk)]
    simp [ints24, hk]
  obtain ⟨xs, hxs⟩ : ∃ xs, ints24 = xs := ⟨_, rfl⟩
  rw [hxs] at hcl hcell hb ⊢
  have hsz : Maps.size (mapG 16) = 16 := by rfl
  have H0 := Lib.hid hb
  have HCL := Lib.hid hcl
  have HC := Lib.hid hcell
  have HZ := Lib.hid hsz
  have lg := hb.lt
  clear hb hcl hcell hxs hsz
  go_enter Tryz.func47, Tryz.ntmps47
  go_wp2_with fail
  go_loopw [29] (fun i wr => ∃ k : Nat, k ≤ 16 ∧ i = .int .i64 k ∧ wr.ownsMap Tryz.prog 3 (plainElem Tryz.prog 3) w.heap.size k (mapG k) ∧ Below w.heap.size w wr) (fun i _ => 16 - (intOf i).toNat)
  case atStart => exact ⟨0, by omega, rfl, World.ownsMap_made _ _ _ _, (Below.refl _ w).alloc (Nat.le_refl _) _⟩
  case round =>
    obtain ⟨k, hk, rfl, hown, hB⟩ := hrel
    by_cases h16 : k < 16
    · have hc := HC.out wr (H0.out.past hB) k h16
      have HO := Lib.hid hown
      have hk0 : (0 : Int) ≤ (k : Int) := by omega
      have hk1 : (k : Int) < 16 := by omega
      have hkk : keyOf Tryz.prog 3 (.int .i64 (24 + (k : Int))) = some (.int .i64 (24 + (k : Int))) := keyOf_int_mk Tryz.underlying3 (WalkArith.wf_i64 (by omega))
      have hvv : plainElem (H := Unit) Tryz.prog 3 (.int .i64 (k : Int)) = some (.lit (.int .i64 (k : Int)), []) := plainElem_int Tryz.underlying3 (WalkArith.wf_i64 (by omega))
      have HKK := Lib.hid hkk
      have HVV := Lib.hid hvv
      clear hkk hvv
      clear hown
      go_wp2_with (first
        | (at_mapUpdate; refine wpList_mapUpdate_in _ rfl _ _ _ 198 rfl 3 3 key_int Tryz.underlying198 (plainElem Tryz.prog 3) w.heap.size k (mapG k) rfl HO.out (by unfold maxLen; omega) _ _ (.int .i64 (24 + (k : Int))) rfl rfl HKK.out (.lit (.int .i64 (k : Int))) [] HVV.out ?_; intro w3 hown3 hturn3; have HO3 := Lib.hid hown3; have HT3 := Lib.hid hturn3; clear hown3 hturn3))
      go_roundw
      case rel => exact ⟨k + 1, by omega, by simp, HO3.out, hB.grown HT3.out.grown hB.size (fun r e => Nat.le_of_eq (Option.some.inj e))⟩
      case measure => simp [intOf]; omega
    · obtain rfl : k = 16 := by omega
      have HO := Lib.hid hown
      clear hown
      go_wp2_with (first
        | (at_len; refine wpList_len_own _ rfl _ 198 rfl 3 3 Tryz.underlying198 (plainElem Tryz.prog 3) w.heap.size 16 (mapG 16) rfl HO.out ?_; rw [HZ.out])
        | (go_at_call 100; refine (HCL.out _ (H0.out.past hB)).mono ?_; rintro e W ⟨⟨hb, cap, sp, rfl, hrow, hge⟩, hBc⟩; have hsz := hBc.size; have hrl := hrow.lt))
      go_ret
      have hs1 := hB.size
      refine ⟨⟨W.heap.size, hb, w.heap.size, cap, sp, rfl, Blk.new _ _ [_, _], hrow.alloc _, by omega, by omega⟩, ?_⟩
      exact (hB.trans (hBc.mono hB.size)).alloc (by omega) _
theorem tlbNew8 (w : World) : Calls Tryz.prog 14 #[.int .i64 8] w
    fun e w' => e = .returned (.pointer (some ⟨w.heap.size, 0, none⟩)) ∧ w' = w.alloc (.cells #[.int .i64 8, .slice none 0 0] 117) := by
  go_enter Tryz.func14, Tryz.ntmps14
  go_wp2
  go_ret
  exact ⟨rfl, rfl⟩
theorem mk_map0 (w : World) : (Instr.makeMap 198 none).run Tryz.prog w = .ok (.map (some w.heap.size)) (w.alloc (.map #[] 0)) := by kernel_rfl
theorem freeNew (w : World) : Calls Tryz.prog 103 #[.int .i64 4, .int .i64 8] w
    fun e w' => e = .returned (.pointer (some ⟨w.heap.size + 1, 0, none⟩)) ∧ w' = (w.alloc (.map #[] 0)).alloc (.cells #[.int .i64 4, .int .i64 8, .int .i64 0, .slice none 0 0, .map (some w.heap.size)] 218) := by
  have hm := mk_map0
  go_enter Tryz.func103, Tryz.ntmps103
  go_wp2
  go_ret
  exact ⟨by simp, rfl⟩
theorem framesN (w : World) (fp fb : Nat) (mem : List Nat) (n : Nat) (H : Host w fp fb n mem) :
    Calls Tryz.prog 104 #[.pointer (some ⟨fp, 0, none⟩)] w fun e w' => e = .returned (.int .i64 (n : Int)) ∧ w = w' := by
  have c0 := H.hdr.cell (k := 0) rfl
  have l0 := H.hdr.lt
  clear H
  go_enter Tryz.func104, Tryz.ntmps104
  go_wp2
  go_ret
  exact ⟨rfl, rfl⟩
theorem storeNew (w : World) (fp fb : Nat) (mem : List Nat) (H : Host w fp fb 40 mem) : Calls Tryz.prog 49 #[.pointer (some ⟨fp, 0, none⟩), .int .i64 4, .int .i64 8] w
    fun e w' => e = .returned (.pointer (some ⟨w.heap.size + 2, 0, none⟩)) ∧ w' = ((w.alloc (.map #[] 0)).alloc (.cells #[.int .i64 4, .int .i64 8, .int .i64 0, .slice none 0 0, .map (some w.heap.size)] 218)).alloc (.cells #[.pointer (some ⟨fp, 0, none⟩), .pointer (some ⟨w.heap.size + 1, 0, none⟩), .slice none 0 0] 124) := by
  obtain ⟨W, hW⟩ : ∃ W, (w.alloc (.map #[] 0)).alloc (.cells #[.int .i64 4, .int .i64 8, .int .i64 0, .slice none 0 0, .map (some w.heap.size)] 218) = W := ⟨_, rfl⟩
  have bb : Below w.heap.size w W := by
    rw [← hW]
    exact ((Below.refl _ w).alloc (Nat.le_refl _) _).alloc (by simp) _
  have hfr := framesN W fp fb mem 40 (H.past bb)
  have hsz : W.heap.size = w.heap.size + 2 := by rw [← hW]; simp
  have hfn := freeNew w
  rw [hW] at hfn ⊢
  replace hfr : Calls Tryz.prog 104 #[.pointer (some ⟨fp, 0, none⟩)] W fun e w' => e = .returned (.int .i64 40) ∧ W = w' := hfr
  have HFr := Lib.hid hfr
  have HFn := Lib.hid hfn
  clear hfr hfn hW bb H
  go_enter Tryz.func49, Tryz.ntmps49
  go_wp2_with (first
    | (go_at_call 103; (with_reducible refine HFn.out.mono ?_); rintro e W1 ⟨rfl, rfl⟩)
    | (go_at_call 104; (with_reducible refine HFr.out.mono ?_); rintro e W1 ⟨rfl, rfl⟩))
  go_ret
  exact ⟨rfl, rfl⟩
theorem guardNew (w : World) (p gp sp tp : Nat) : Calls Tryz.prog 51 #[.pointer (some ⟨p, 0, none⟩), .pointer (some ⟨gp, 0, none⟩), .pointer (some ⟨sp, 0, none⟩), .pointer (some ⟨tp, 0, none⟩)] w
    fun e w' => e = .returned (.pointer (some ⟨w.heap.size, 0, none⟩)) ∧ w' = w.alloc (.cells #[.pointer (some ⟨p, 0, none⟩), .pointer (some ⟨gp, 0, none⟩), .pointer (some ⟨sp, 0, none⟩), .pointer (some ⟨tp, 0, none⟩), .slice none 0 0] 144) := by
  go_enter Tryz.func51, Tryz.ntmps51
  go_wp2
  go_ret
  exact ⟨rfl, rfl⟩
theorem row24 {W : World} {base : Nat} {v : Value} (h : W.ownsRow base 3 1 v 16 ints24) : ∃ g cp rest, v = .slice (some ⟨g, 0, none⟩) 16 cp ∧ Blk W g 3 (ints24 ++ rest) ∧ base ≤ g := by
  rcases h.2 with ⟨_, h⟩ | ⟨g, cap, cur, rfl, h1, h2, h3, h4, h5, h6⟩
  · simp at h
  · refine ⟨g, cap, cur.toList.drop (16 * 1), rfl, ?_, h1⟩
    unfold Blk
    rw [h2, ← h6, List.take_append_drop]
set_option maxRecDepth 100000 in
theorem list24 (w : World) : Calls Tryz.prog 48 #[] w
    fun e w' => (∃ g cp rest, e = .returned (.slice (some ⟨g, 0, none⟩) 16 cp) ∧ Blk w' g 3 (ints24 ++ rest) ∧ w.heap.size ≤ g) ∧ Below w.heap.size w w' := by
  obtain ⟨i0, hi, hz0, hz1, hz2⟩ := info_parts info_int
  have H1 := Lib.hid hi
  have HZ0 := Lib.hid hz0
  have HZ1 := Lib.hid hz1
  have HZ2 := Lib.hid hz2
  clear hi hz0 hz1 hz2
  go_enter Tryz.func48, Tryz.ntmps48
  go_wp2_with fail
  go_loopw [1, 2] (fun v i wr => ∃ k : Nat, k ≤ 16 ∧ i = .int .i64 k ∧ wr.ownsRow w.heap.size 3 1 v k ((List.range k).map fun (k : Nat) => .int .i64 (24 + (k : Int))) ∧ Below w.heap.size w wr) (fun _ i _ => 16 - (intOf i).toNat)
  case atStart => exact ⟨0, by omega, rfl, World.ownsRow_nil _ _ _ _, Below.refl _ _⟩
  case round =>
    obtain ⟨k, hk, rfl, hown, hB⟩ := hrel
    have hs1 := hB.size
    by_cases h16 : k < 16
    · have HO := Lib.hid hown
      have hnc := cell_one_new wr (.int .i64 (24 + (k : Int))) 3
      have HN := Lib.hid hnc
      clear hown hnc
      go_wp2_with (first
        | (at_builtin; refine wpList_append_own _ rfl _ _ 43 rfl w.heap.size 3 i0 _ 1 8 Tryz.underlying43 H1.out HZ0.out HZ1.out HZ2.out rfl (by decide) _ _ _ rfl (HO.out.alloc _) ⟨wr.heap.size, 0, none⟩ 1 1 [.int .i64 (24 + (k : Int))] rfl rfl HN.out (fun x hx => by simp at hx; subst hx; rfl) (by unfold maxLen; omega) (by omega) (by simp; omega) ?_; intro v' w3 hown' hgrow3 hnil3; have HO3 := Lib.hid hown'; have HG3 := Lib.hid hgrow3; clear hown' hgrow3 hnil3))
      go_roundw
      case rel =>
        refine ⟨k + 1, by omega, by simp, ?_, (hB.alloc hB.size _).grown HG3.out (by simp; omega) (fun r e => ?_)⟩
        · rw [List.range_succ, List.map_append]; exact HO3.out
        · exact ((HO.out.alloc (.cells #[.int .i64 (24 + (k : Int))] 3)).lt r e).1
      case measure => simp [intOf]; omega
    · obtain rfl : k = 16 := by omega
      obtain ⟨g, cp, rest, rfl, hrow, hg⟩ := row24 hown
      have HR := Lib.hid hrow
      clear hown hrow h16
      go_wp2
      go_ret
      exact ⟨⟨g, cp, rest, rfl, HR.out, hg⟩, hB⟩
end Go.Proofs.YtglohconhbcchaaGreatDoor

namespace Go.Proofs.YtglohconhbcchaaGreatDoor
open Go.RowKit Go.Shelf Go.Maps

def h24 : List Nat := (List.range 16).map (24 + ·)
def P24 : Pm := ⟨40, h24, 4, 8, 8⟩
def V24 : GVl := ⟨.slice none 0 0, [], .slice none 0 0, .slice none 0 0, .slice none 0 0⟩
def S24 (mem : List Nat) : SS := ⟨mem, [], 0, []⟩
def G24 (mem : List Nat) : GS := ⟨S24 mem, [], []⟩
def gput1 (m : List Nat) (x : Int × Int × Nat) : List Nat := wr h24 m x.1 x.2.1 x.2.2
def gputs (l : List (Int × Int × Nat)) : List Nat := l.foldl gput1 (List.replicate 320 0)
theorem wr_len (hosts mem : List Nat) (g i : Int) (v : Nat) : (wr hosts mem g i v).length = mem.length := by
  unfold wr; split <;> simp
theorem gputs_len (l : List (Int × Int × Nat)) : (gputs l).length = 320 :=
  foldl_keep (fun m : List Nat => m.length = 320) gput1 (fun _ _ h => (wr_len _ _ _ _ _).trans h) l _ List.length_replicate
theorem S24_inv (mem : List Nat) (h : mem.length = 320) : SInv P24 (S24 mem) :=
  ⟨h, fun _ hp => by simp [S24] at hp, fun _ hp => by simp [S24] at hp, fun _ hp => by simp [S24] at hp, by simp [S24], by simp [S24, P24], rfl, by decide, by decide, fun _ hp => by simp [S24] at hp⟩
theorem keys_new (w : World) : Keys (w.alloc (.map #[] 0)) w.heap.size [] := ⟨0, .map [], World.ownsMap_made w _ _ _, fun f => by simp [Maps.has], rfl⟩
/-- a write into the guest's memory -/
theorem gset_h {w0 w : World} {A : GAd} {P : Pm} {V : GVl} {G : GS} {ts : List Thing} (H : HG w0 w A P V G ts) (g i : Int) (v : Nat) (hv : v < 2 ^ 64) :
    Calls Tryz.prog 52 #[.pointer (some ⟨A.p, 0, none⟩), .int .i64 g, .int .i64 i, .int .u64 (v : Int)] w
      fun e w' => e = .returned (.bool (place P.hosts g i).isSome) ∧ HG w0 w' A P V { G with s := { G.s with mem := wr P.hosts G.s.mem g i v } } ts := by
  have hh := H.host
  have n1 : A.fp ≠ A.fb := hh.hdr.ne hh.row (by decide)
  refine (set_any w A.p A.gp A.hb A.mb A.fp A.fb P.hosts G.s.mem A.cap P.n g i v hv hh H.guest (Ne.symm n1)).mono ?_
  rintro e w' ⟨he, hH, hK, _⟩
  have h1 := Hold.step H 0 (hst A P (wr P.hosts G.s.mem g i v)) rfl hH (hK.mono (Nat.le_refl _) (fun _ _ h => .inr h)) (fun _ h => .inl h)
  have hs : SX w' P A V G.s := h1.at 2 rfl
  exact ⟨he, h1.weak 2 (stor A P V { G.s with mem := wr P.hosts G.s.mem g i v }) rfl (hs.mem _ (wr_len _ _ _ _ _)) (fun _ h => h)⟩
theorem hg_new {w0 W : World} {fp fb gp hb mb cap s2 s : Nat} {sp : List Value} (hB : Below w0.heap.size w0 W) (hH : Host W fp fb 40 (List.replicate 320 0))
    (b1 : Blk W gp 200 [.slice (some ⟨hb, 0, none⟩) 16 cap, .map (some mb)]) (b2 : Blk W hb 3 (ints24 ++ sp)) (b3 : Blk W s 117 [.int .i64 8, .slice none 0 0])
    (b4 : Keys W (s + 1) []) (b5 : Blk W (s + 2) 218 [.int .i64 4, .int .i64 8, .int .i64 0, .slice none 0 0, .map (some (s + 1))]) (b6 : Blk W (s + 3) 124 [.pointer (some ⟨fp, 0, none⟩), .pointer (some ⟨s + 2, 0, none⟩), .slice none 0 0])
    (b7 : Blk W (s + 4) 203 [.pointer (some ⟨gp, 0, none⟩), .pointer (some ⟨fp, 0, none⟩)]) (b8 : Blk W (s + 5) 144 [.pointer (some ⟨s + 4, 0, none⟩), .pointer (some ⟨gp, 0, none⟩), .pointer (some ⟨s + 3, 0, none⟩), .pointer (some ⟨s, 0, none⟩), .slice none 0 0])
    (q1 : w0.heap.size ≤ fp) (q2 : w0.heap.size ≤ fb) (q3 : fp < s2) (q4 : fb < s2) (q5 : s2 ≤ gp) (q6 : s2 ≤ hb) (q7 : gp < s) (q8 : hb < s) :
    HG w0 W ⟨fp, fb, s + 4, gp, hb, mb, cap, s + 3, s + 2, s + 1, s, s + 5⟩ P24 V24 (G24 (List.replicate 320 0)) [] := by
  refine ⟨hB, ?_, ?_, ?_⟩
  · intro t ht
    simp only [gths, List.append_nil, List.mem_cons, List.not_mem_nil, or_false] at ht
    rcases ht with rfl | rfl | rfl | rfl | rfl
    · exact hH
    · exact ⟨b7, b1, ⟨sp, b2⟩, by decide, by decide⟩
    · exact ⟨b6, RowP.nil _, rfl, fun k b h => by simp [V24] at h, List.nodup_nil, b5, RowI.nil _, b4, S24_inv _ List.length_replicate⟩
    · exact ⟨⟨b3, HRow.nil _⟩, Nat.zero_le _, by decide⟩
    · exact ⟨b8, RowI.nil _⟩
  · intro t ht b hb
    simp only [gths, List.append_nil, List.mem_cons, List.not_mem_nil, or_false] at ht
    rcases ht with rfl | rfl | rfl | rfl | rfl
    · rcases hb with e | e <;> dsimp only at e <;> omega
    · rcases hb with e | e | e <;> dsimp only at e <;> omega
    · rcases hb with e | e | e | e | e | e <;> first | (dsimp only at e; omega) | (simp [V24, Value.ownBlock] at e)
    · rcases hb with e | e <;> first | (dsimp only at e; omega) | (simp [V24, Value.ownBlock] at e)
    · rcases hb with e | e <;> first | (dsimp only at e; omega) | (simp [V24, Value.ownBlock] at e)
  · simp only [gths, List.append_nil]
    have o1 : ∀ b, (hst ⟨fp, fb, s + 4, gp, hb, mb, cap, s + 3, s + 2, s + 1, s, s + 5⟩ P24 (G24 (List.replicate 320 0)).s.mem).own b → b < s2 := by rintro b (e | e) <;> dsimp only at e <;> omega
    have o2 : ∀ b, (gst ⟨fp, fb, s + 4, gp, hb, mb, cap, s + 3, s + 2, s + 1, s, s + 5⟩ P24).own b → s2 ≤ b ∧ (b < s ∨ b = s + 4) := by rintro b (e | e | e) <;> dsimp only at e <;> omega
    have o3 : ∀ b, (stor ⟨fp, fb, s + 4, gp, hb, mb, cap, s + 3, s + 2, s + 1, s, s + 5⟩ P24 V24 (G24 (List.replicate 320 0)).s).own b → b = s + 1 ∨ b = s + 2 ∨ b = s + 3 := by
      rintro b (e | e | e | e | e | e) <;> first | (dsimp only at e; omega) | (simp [V24, Value.ownBlock] at e)
    have o4 : ∀ b, (tlbt ⟨fp, fb, s + 4, gp, hb, mb, cap, s + 3, s + 2, s + 1, s, s + 5⟩ P24 V24.tv (G24 (List.replicate 320 0)).l).own b → b = s := by
      rintro b (e | e) <;> first | (dsimp only at e; omega) | (simp [V24, Value.ownBlock] at e)
    have o5 : ∀ b, (grd ⟨fp, fb, s + 4, gp, hb, mb, cap, s + 3, s + 2, s + 1, s, s + 5⟩ V24.u (G24 (List.replicate 320 0)).loose).own b → b = s + 5 := by
      rintro b (e | e) <;> first | (dsimp only at e; omega) | (simp [V24, Value.ownBlock] at e)
    simp only [List.pairwise_cons, List.mem_cons, List.not_mem_nil, or_false, forall_eq_or_imp, forall_eq, List.Pairwise.nil, and_true, false_implies, implies_true]
    refine ⟨⟨?_, ?_, ?_, ?_⟩, ⟨?_, ?_, ?_⟩, ⟨?_, ?_⟩, ?_⟩
    · intro b h h'; have := o1 b h; have := o2 b h'; omega
    · intro b h h'; have := o1 b h; have := o3 b h'; omega
    · intro b h h'; have := o1 b h; have := o4 b h'; omega
    · intro b h h'; have := o1 b h; have := o5 b h'; omega
    · intro b h h'; have := o2 b h; have := o3 b h'; omega
    · intro b h h'; have := o2 b h; have := o4 b h'; omega
    · intro b h h'; have := o2 b h; have := o5 b h'; omega
    · intro b h h'; have := o3 b h; have := o4 b h'; omega
    · intro b h h'; have := o3 b h; have := o5 b h'; omega
    · intro b h h'; have := o4 b h; have := o5 b h'; omega
theorem gputs_take (l : List (Int × Int × Nat)) (k : Nat) (hk : k < l.length) : gputs (l.take (k + 1)) = gput1 (gputs (l.take k)) (l.getD k (0, 0, 0)) :=
  foldl_take gput1 (0, 0, 0) (List.replicate 320 0) l k hk
theorem Keys.past {w w' : World} {b : Nat} {l : List Int} (h : Keys w b l) (hb : Below w.heap.size w w') : Keys w' b l := h.keep (hb.block b h.lt)
theorem store_blocks (W : World) (fp : Nat) : ∃ W5, W5 = ((W.alloc (.map #[] 0)).alloc (.cells #[.int .i64 4, .int .i64 8, .int .i64 0, .slice none 0 0, .map (some W.heap.size)] 218)).alloc (.cells #[.pointer (some ⟨fp, 0, none⟩), .pointer (some ⟨W.heap.size + 1, 0, none⟩), .slice none 0 0] 124) ∧
    Keys W5 W.heap.size [] ∧ Blk W5 (W.heap.size + 1) 218 [.int .i64 4, .int .i64 8, .int .i64 0, .slice none 0 0, .map (some W.heap.size)] ∧ Blk W5 (W.heap.size + 2) 124 [.pointer (some ⟨fp, 0, none⟩), .pointer (some ⟨W.heap.size + 1, 0, none⟩), .slice none 0 0] ∧ Below W.heap.size W W5 ∧ W5.heap.size = W.heap.size + 3 := by
  have b1 := bal W (.map #[] 0)
  have k1 := keys_new W
  have e1 : (W.alloc (.map #[] 0)).heap.size = W.heap.size + 1 := by simp
  obtain ⟨Wa, ha⟩ : ∃ Wa, W.alloc (.map #[] 0) = Wa := ⟨_, rfl⟩
  rw [ha] at b1 k1 e1 ⊢
  have b2 := bal Wa (.cells #[.int .i64 4, .int .i64 8, .int .i64 0, .slice none 0 0, .map (some W.heap.size)] 218)
  have k2 := Blk.new Wa 218 [.int .i64 4, .int .i64 8, .int .i64 0, .slice none 0 0, .map (some W.heap.size)]
  have e2 : (Wa.alloc (.cells #[.int .i64 4, .int .i64 8, .int .i64 0, .slice none 0 0, .map (some W.heap.size)] 218)).heap.size = Wa.heap.size + 1 := by simp
  obtain ⟨Wb, hb⟩ : ∃ Wb, Wa.alloc (.cells #[.int .i64 4, .int .i64 8, .int .i64 0, .slice none 0 0, .map (some W.heap.size)] 218) = Wb := ⟨_, rfl⟩
  rw [show Wa.alloc (.cells ([.int .i64 4, .int .i64 8, .int .i64 0, .slice none 0 0, .map (some W.heap.size)] : List Value).toArray 218) = Wb from hb, e1] at k2
  rw [hb] at b2 e2 ⊢
  have b3 := bal Wb (.cells #[.pointer (some ⟨fp, 0, none⟩), .pointer (some ⟨W.heap.size + 1, 0, none⟩), .slice none 0 0] 124)
  have k3 := Blk.new Wb 124 [.pointer (some ⟨fp, 0, none⟩), .pointer (some ⟨W.heap.size + 1, 0, none⟩), .slice none 0 0]
  rw [show Wb.heap.size = W.heap.size + 2 by omega] at k3
  refine ⟨_, rfl, (k1.past b2).past b3, k2.past b3, k3, (b1.trans (b2.mono b1.size)).trans (b3.mono (b1.trans (b2.mono b1.size)).size), by simp; omega⟩
/-- the law's world, in a block of its own -/
def wld (wb : Nat) (A : GAd) : Thing := box wb 42 [.pointer (some ⟨A.fp, 0, none⟩), .pointer (some ⟨A.p, 0, none⟩), .pointer (some ⟨A.sp, 0, none⟩), .pointer (some ⟨A.tp, 0, none⟩), .pointer (some ⟨A.dp, 0, none⟩)]
set_option maxRecDepth 100000 in
set_option maxHeartbeats 2000000 in
theorem gmade_any (w : World) (a : Option Addr) (c : Nat) (l : List (Int × Int × Nat)) (hp : Ps w a l) (hlen : l.length ≤ 9223372036854775807) :
    Calls Tryz.prog 11 #[.slice a l.length c] w
      fun e w' => ∃ wb A, e = .returned (.pointer (some ⟨wb, 0, none⟩)) ∧ HG w w' A P24 V24 (G24 (gputs l)) [wld wb A] := by
  obtain ⟨len, hl⟩ : ∃ len, l.length = len := ⟨_, rfl⟩
  rw [hl] at hlen ⊢
  have HP := Lib.hid hp
  have HL := Lib.hid hl
  clear hp hl
  go_enter Tryz.func11, Tryz.ntmps11
  go_wp2_with (first
    | (go_at_call 46; (with_reducible refine (frameNew40 _).mono ?_); rintro e W1 ⟨⟨fp, fb, rfl, hH, q1, q2⟩, b1⟩)
    | (go_at_call 48; (with_reducible refine (list24 _).mono ?_); rintro e W2 ⟨⟨g, cp, rest, rfl, hr, _⟩, b2⟩)
    | (go_at_call 47; (with_reducible refine (gmapNew24 _ g cp rest hr).mono ?_); rintro e W3 ⟨⟨gp, hb, mb, cap, sp, rfl, hg1, hg2, q3, q4⟩, b3⟩)
    | (go_at_call 14; (with_reducible refine (tlbNew8 _).mono ?_); rintro e W4 ⟨rfl, hW4⟩; have b4 : Below W3.heap.size W3 W4 := by { rw [hW4]; exact bal W3 _ }; have hH4 := (((hH.past b2).past b3).past b4); have s4 : W4.heap.size = W3.heap.size + 1 := by { rw [hW4]; simp }; have k4 : Blk W4 W3.heap.size 117 [.int .i64 8, .slice none 0 0] := by { rw [hW4]; exact Blk.new _ _ [_, _] }; clear hW4)
    | (go_at_call 49; (with_reducible refine (storeNew _ fp fb _ hH4).mono ?_); rintro e W5 ⟨rfl, hW5⟩; obtain ⟨W5', e5, k5, k6, k7, b5, s5⟩ := store_blocks W4 fp; rw [← e5] at hW5; subst hW5; clear e5; rw [s4] at k5 k6 k7 s5 ⊢; have hH5 := hH4.past b5; have k45 := k4.past b5)
    | (go_at_call 50; (with_reducible refine (guestNew_any _ _ _).mono ?_); rintro e W6 ⟨rfl, hW6⟩; have b6 : Below W5.heap.size W5 W6 := by { rw [hW6]; exact bal W5 _ }; have s6 : W6.heap.size = W5.heap.size + 1 := by { rw [hW6]; simp }; have k8 : Blk W6 W5.heap.size 203 [.pointer (some ⟨gp, 0, none⟩), .pointer (some ⟨fp, 0, none⟩)] := by { rw [hW6]; exact Blk.new _ _ [_, _] }; clear hW6; rw [s5] at k8 s6 ⊢)
    | (go_at_call 51; (with_reducible refine (guardNew _ _ _ _ _).mono ?_); rintro e W7 ⟨rfl, hW7⟩; have b7 : Below W6.heap.size W6 W7 := by { rw [hW7]; exact bal W6 _ }; have k9 : Blk W7 W6.heap.size 144 [.pointer (some ⟨W3.heap.size + 1 + 3, 0, none⟩), .pointer (some ⟨gp, 0, none⟩), .pointer (some ⟨W3.heap.size + 1 + 2, 0, none⟩), .pointer (some ⟨W3.heap.size, 0, none⟩), .slice none 0 0] := by { rw [hW7]; exact Blk.new _ _ [_, _, _, _, _] }; clear hW7; rw [s6] at k9 ⊢))
  have BB : Below w.heap.size w W7 := (((((b1.trans (b2.mono b1.size)).trans (b3.mono (by have := b1.size; have := b2.size; omega))).trans (b4.mono (by have := b1.size; have := b2.size; have := b3.size; omega))).trans (b5.mono (by have := b1.size; have := b2.size; have := b3.size; omega))).trans (b6.mono (by have := b1.size; have := b2.size; have := b3.size; omega))).trans (b7.mono (by have := b1.size; have := b2.size; have := b3.size; omega))
  have HN : HG w W7 _ P24 V24 (G24 (List.replicate 320 0)) [] := hg_new (s2 := W2.heap.size) (s := W3.heap.size) (mb := mb) BB ((hH5.past b6).past b7) ((((hg1.past b4).past b5).past b6).past b7) ((((hg2.past b4).past b5).past b6).past b7) ((k45.past b6).past b7) ((k5.past b6).past b7) ((k6.past b6).past b7) ((k7.past b6).past b7) (k8.past b7) k9 q1 q2 (by have := hH.hdr.lt; have := b2.size; omega) (by have := hH.row.lt; have := b2.size; omega) q3 q4 hg1.lt hg2.lt
  have e1 : fp = (⟨fp, fb, W3.heap.size + 4, gp, hb, mb, cap, W3.heap.size + 3, W3.heap.size + 2, W3.heap.size + 1, W3.heap.size, W3.heap.size + 5⟩ : GAd).fp := rfl
  have e2 : W3.heap.size = (⟨fp, fb, W3.heap.size + 4, gp, hb, mb, cap, W3.heap.size + 3, W3.heap.size + 2, W3.heap.size + 1, W3.heap.size, W3.heap.size + 5⟩ : GAd).tp := rfl
  have e3 : W3.heap.size + 1 + 2 = (⟨fp, fb, W3.heap.size + 4, gp, hb, mb, cap, W3.heap.size + 3, W3.heap.size + 2, W3.heap.size + 1, W3.heap.size, W3.heap.size + 5⟩ : GAd).sp := rfl
  have e4 : W3.heap.size + 1 + 3 = (⟨fp, fb, W3.heap.size + 4, gp, hb, mb, cap, W3.heap.size + 3, W3.heap.size + 2, W3.heap.size + 1, W3.heap.size, W3.heap.size + 5⟩ : GAd).p := rfl
  have e5 : W3.heap.size + 1 + 3 + 1 = (⟨fp, fb, W3.heap.size + 4, gp, hb, mb, cap, W3.heap.size + 3, W3.heap.size + 2, W3.heap.size + 1, W3.heap.size, W3.heap.size + 5⟩ : GAd).dp := rfl
  obtain ⟨A, hA⟩ : ∃ A : GAd, (⟨fp, fb, W3.heap.size + 4, gp, hb, mb, cap, W3.heap.size + 3, W3.heap.size + 2, W3.heap.size + 1, W3.heap.size, W3.heap.size + 5⟩ : GAd) = A := ⟨_, rfl⟩
  rw [hA] at HN e1 e2 e3 e4 e5
  rw [e5, e4, e3, e2, e1]
  have HN2 := Lib.hid HN
  clear HN BB e1 e2 e3 e4 e5 hA k9 k8 k7 k6 k5 k45 hH5 hH4 hH hg1 hg2 hr b1 b2 b3 b4 b5 b6 b7 s4 s5 s6 k4 q1 q2 q3 q4
  go_loopw [9] (fun i wr => ∃ k : Nat, k ≤ len ∧ i = .int .i64 k ∧ HG w wr A P24 V24 (G24 (gputs (l.take k))) []) (fun i _ => len - (intOf i).toNat)
  case atStart => exact ⟨0, by omega, rfl, HN2.out⟩
  case round =>
    obtain ⟨k, hk, rfl, M⟩ := hrel
    clear HN2
    by_cases hkl : k < len
    · obtain ⟨b, off, rfl, hb1, hcs⟩ : ∃ b off, a = some ⟨b, off, none⟩ ∧ b < w.heap.size ∧ ∀ j, j < l.length → (l.getD j (0, 0, 0)).2.2 < 2 ^ 64 ∧
          w.cell? ⟨b, off + j * 3, none⟩ = some (.int .i64 (l.getD j (0, 0, 0)).1) ∧ w.cell? ⟨b, off + j * 3 + 1, none⟩ = some (.int .i64 (l.getD j (0, 0, 0)).2.1) ∧ w.cell? ⟨b, off + j * 3 + 2, none⟩ = some (.int .u64 ((l.getD j (0, 0, 0)).2.2 : Int)) := by
        rcases HP.out with h | h
        · rw [h] at HL; have := HL.out; simp at this; omega
        · exact h
      obtain ⟨hv, c0, c1, c2⟩ := hcs k (by rw [HL.out]; exact hkl)
      have hnext := gputs_take l k (by rw [HL.out]; exact hkl)
      obtain ⟨⟨x1, x2, x3⟩, hx⟩ : ∃ x, l.getD k (0, 0, 0) = x := ⟨_, rfl⟩
      rw [hx] at hv c0 c1 c2 hnext
      dsimp only [gput1] at hv c0 c1 c2 hnext
      have HN := Lib.hid hnext
      obtain ⟨mk, hmk⟩ : ∃ mk, gputs (l.take k) = mk := ⟨_, rfl⟩
      rw [hmk] at M HN
      have HM := Lib.hid M
      have C0 := Lib.hid c0
      have C1 := Lib.hid c1
      have C2 := Lib.hid c2
      have hB := M.below
      clear c0 c1 c2
      have c0 := (hB.cell (p := ⟨b, _, none⟩) hb1).trans C0.out
      have c1 := (hB.cell (p := ⟨b, _, none⟩) hb1).trans C1.out
      have c2 := (hB.cell (p := ⟨b, _, none⟩) hb1).trans C2.out
      have lb : b < wr.heap.size := Nat.lt_of_lt_of_le hb1 hB.size
      clear hcs hx hnext M hmk hk hB
      go_wp2_with fail
      go_region_held3 (fun w' => w'.cell? ⟨b, off + k * 3, none⟩ = some (.int .i64 x1) ∧ w'.cell? ⟨b, off + k * 3 + 1, none⟩ = some (.int .i64 x2) ∧ w'.cell? ⟨b, off + k * 3 + 2, none⟩ = some (.int .u64 (x3 : Int))) (go_keep) (first | (go_at_call 52; (with_reducible refine (gset_h HM.out.drew x1 x2 x3 hv).mono ?_); rintro e W3 ⟨rfl, hM3⟩; have hB3 := hM3.below; have f0 := (hB3.cell (p := ⟨b, off + k * 3, none⟩) hb1).trans C0.out; have f1 := (hB3.cell (p := ⟨b, off + k * 3 + 1, none⟩) hb1).trans C1.out; have f2 := (hB3.cell (p := ⟨b, off + k * 3 + 2, none⟩) hb1).trans C2.out; have HM3 := Lib.hid hM3; clear hM3 hB3))
      all_goals go_wp2
      all_goals go_roundw
      case rel => exact ⟨k + 1, by omega, by simp, by rw [HN.out]; exact HM3.out⟩
      case measure => simp [intOf]; omega
    · obtain rfl : k = len := by omega
      rw [← HL.out, List.take_length] at M
      have HM := Lib.hid M
      clear M
      go_wp2
      go_ret
      exact ⟨wr.heap.size, A, rfl, HM.out.add (bal wr _) (wld wr.heap.size A) (Blk.new wr _ [_, _, _, _, _]) (fun b e => Nat.le_of_eq e.symm)⟩
end Go.Proofs.YtglohconhbcchaaGreatDoor
