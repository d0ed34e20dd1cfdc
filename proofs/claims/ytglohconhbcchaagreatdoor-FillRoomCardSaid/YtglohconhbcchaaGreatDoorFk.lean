/- Layer 17: the small functions: how many frames are free; the host's machine and its walk; a filler; what a large page's key is. -/
import Derived.Test.YtglohconhbcchaaGreatDoorFget
import Derived.Test.YtglohconhbcchaaGreatDoorFgm
import Derived.Test.YtglohconhbcchaaGreatDoorLast
import Derived.ScopeJumps
import Derived.WalkMore
namespace Go.Proofs.YtglohconhbcchaaGreatDoor
open Go.RowKit Go.Shelf Go.Maps

set_option linter.unusedSimpArgs false
set_option linter.unusedVariables false

set_option maxHeartbeats 1000000 in
theorem fleft_any {w : World} {P : Pm} {A : GAd} {V : GVl} {S : SS} (h : SX w P A V S) :
    Calls Tryz.prog 67 #[.pointer (some ⟨A.flp, 0, none⟩)] w
      fun e w' => e = .returned (.int .i64 ((sleft P S : Nat) : Int)) ∧ Below w.heap.size w w' := by
  have c1 := h.fl.cell (k := 1) rfl
  have c4 := h.fl.cell (k := 4) rfl
  have lf := h.fl.lt
  obtain ⟨n, D, m1, _, m3⟩ := h.tk
  rw [List.length_map] at m3
  have h1 := h.inv.fr
  have h2 := h.inv.cnt
  have h3 := h.inv.le
  have hs : sleft P S = P.many - S.ps.length := rfl
  rw [hs]
  obtain ⟨k, hk⟩ : ∃ k, S.ps.length = k := ⟨_, rfl⟩
  obtain ⟨m, hm⟩ : ∃ m, P.many = m := ⟨_, rfl⟩
  rw [hk] at m3 h2 ⊢
  rw [hm] at h1 c1 h3 ⊢
  have hsub : IntKind.i64.wrap ((m : Int) - (k : Int)) = ((m - k : Nat) : Int) := by rw [IntKind.wrap_i64]; omega
  have HM := Lib.hid m1
  have HM3 := Lib.hid m3
  clear h m1 m3 h1 h2 h3 hs hk hm
  go_enter Tryz.func67, Tryz.ntmps67
  go_wp2_with fail
  have hln : ∀ (W : World) (ty : TypeId), W.ownsMap Tryz.prog 3 (plainElem (H := Unit) Tryz.prog 3) A.km n D → (Builtin.len_ #[198] ty #[.map (some A.km)]).run Tryz.prog W = .ok (.int .i64 (k : Int)) W := fun W ty h => by
    have := h.len Tryz.underlying198 ty
    rw [HM3.out] at this
    exact this
  have hm0 : w.drew.ownsMap Tryz.prog 3 (plainElem (H := Unit) Tryz.prog 3) A.km n D := HM.out
  go_region_held3 (fun w' => w'.cell? ⟨A.flp, 1, none⟩ = some (.int .i64 (m : Int)) ∧ w'.cell? ⟨A.flp, 4, none⟩ = some (.map (some A.km)) ∧ w'.ownsMap Tryz.prog 3 (plainElem (H := Unit) Tryz.prog 3) A.km n D) (go_keep) (fail)
  all_goals go_wp2
  all_goals go_ret
  all_goals exact ⟨by simp [hsub], below_of_drewN _ _⟩
theorem left_any {w0 w : World} {A : GAd} {P : Pm} {V : GVl} {G : GS} {ts : List Thing} (H : HG w0 w A P V G ts) :
    Calls Tryz.prog 21 #[.pointer (some ⟨A.sp, 0, none⟩)] w
      fun e w' => e = .returned (.int .i64 ((sleft P G.s : Nat) : Int)) ∧ Below w.heap.size w w' := by
  have c1 := H.sx.hdr.cell (k := 1) rfl
  have ls := H.sx.hdr.lt
  have hf := fleft_any H.sx
  obtain ⟨n, hn⟩ : ∃ n, sleft P G.s = n := ⟨_, rfl⟩
  rw [hn] at hf ⊢
  have HF := Lib.hid hf
  clear hf H hn
  go_enter Tryz.func21, Tryz.ntmps21
  go_wp2_with (go_at_call 67; (with_reducible refine HF.out.mono ?_); rintro e W1 ⟨rfl, b1⟩)
  go_ret
  exact ⟨rfl, b1⟩
theorem mmuNew (w : World) (hp tp : Nat) : Calls Tryz.prog 15 #[.pointer (some ⟨hp, 0, none⟩), .pointer (some ⟨tp, 0, none⟩)] w
    fun e w' => e = .returned (.pointer (some ⟨w.heap.size, 0, none⟩)) ∧ w' = w.alloc (.cells #[.pointer (some ⟨tp, 0, none⟩), .pointer (some ⟨hp, 0, none⟩)] 119) := by
  go_enter Tryz.func15, Tryz.ntmps15
  go_wp2
  go_ret
  exact ⟨rfl, rfl⟩
/-- where a filler lies, and its map; where a job lies -/
structure FA where
  fl : Nat
  gp : Nat
  hb : Nat
  mb : Nat
  cap : Nat
def fcells (A : GAd) (gp : Nat) : List Value := [.pointer (some ⟨A.p, 0, none⟩), .pointer (some ⟨gp, 0, none⟩), .pointer (some ⟨A.sp, 0, none⟩), .pointer (some ⟨A.dp, 0, none⟩)]
theorem fillNew (w : World) (A : GAd) (gp : Nat) : Calls Tryz.prog 53 #[.pointer (some ⟨A.p, 0, none⟩), .pointer (some ⟨gp, 0, none⟩), .pointer (some ⟨A.sp, 0, none⟩), .pointer (some ⟨A.dp, 0, none⟩)] w
    fun e w' => e = .returned (.pointer (some ⟨w.heap.size, 0, none⟩)) ∧ w' = w.alloc (.cells (fcells A gp).toArray 156) := by
  go_enter Tryz.func53, Tryz.ntmps53
  go_wp2
  go_ret
  exact ⟨rfl, rfl⟩
set_option maxRecDepth 100000 in
theorem list17 (w : World) : Calls Tryz.prog 35 #[] w
    fun e w' => (∃ g cp rest, e = .returned (.slice (some ⟨g, 0, none⟩) 16 cp) ∧ Blk w' g 3 (ints24 ++ rest) ∧ w.heap.size ≤ g) ∧ Below w.heap.size w w' := by
  obtain ⟨i0, hi, hz0, hz1, hz2⟩ := info_parts info_int
  have H1 := Lib.hid hi
  have HZ0 := Lib.hid hz0
  have HZ1 := Lib.hid hz1
  have HZ2 := Lib.hid hz2
  clear hi hz0 hz1 hz2
  go_enter Tryz.func35, Tryz.ntmps35
  go_wp2_with fail
  go_loopw [1, 2] (fun v i wr => ∃ k : Nat, k ≤ 16 ∧ i = .int .i64 k ∧ wr.ownsRow w.heap.size 3 1 v k ((List.range k).map fun (k : Nat) => .int .i64 (24 + (k : Int))) ∧ Below w.heap.size w wr) (fun _ i _ => 16 - (intOf i).toNat)
  case atStart => exact ⟨0, by omega, rfl, World.ownsRow_nil _ _ _ _, Below.refl _ _⟩
  case round =>
    obtain ⟨k, hk, rfl, hown, hB⟩ := hrel
    have hs1 := hB.size
    by_cases h16 : k < 16
    · have HO := Lib.hid hown
      have hnc := cell_one_new wr (.int .i64 (24 + (k : Int))) 3
      have HN := Lib.hid hnc
      clear hown hnc
      go_wp2_with (first
        | (at_builtin; refine wpList_append_own _ rfl _ _ 43 rfl w.heap.size 3 i0 _ 1 8 Tryz.underlying43 H1.out HZ0.out HZ1.out HZ2.out rfl (by decide) _ _ _ rfl (HO.out.alloc _) ⟨wr.heap.size, 0, none⟩ 1 1 [.int .i64 (24 + (k : Int))] rfl rfl HN.out (fun x hx => by simp at hx; subst hx; rfl) (by unfold maxLen; omega) (by omega) (by simp; omega) ?_; intro v' w3 hown' hgrow3 hnil3; have HO3 := Lib.hid hown'; have HG3 := Lib.hid hgrow3; clear hown' hgrow3 hnil3))
      go_roundw
      case rel =>
        refine ⟨k + 1, by omega, by simp, ?_, (hB.alloc hB.size _).grown HG3.out (by simp; omega) (fun r e => ?_)⟩
        · rw [List.range_succ, List.map_append]; exact HO3.out
        · exact ((HO.out.alloc (.cells #[.int .i64 (24 + (k : Int))] 3)).lt r e).1
      case measure => simp [intOf]; omega
    · obtain rfl : k = 16 := by omega
      obtain ⟨g, cp, rest, rfl, hrow, hg⟩ := row24 hown
      have HR := Lib.hid hrow
      clear hown hrow h16
      go_wp2
      go_ret
      exact ⟨⟨g, cp, rest, rfl, HR.out, hg⟩, hB⟩
end Go.Proofs.YtglohconhbcchaaGreatDoor
