/- The laws' twice: is a place of a path another one too? -/
import Derived.Test.YtlldbfpccdmclaaDoorSame
namespace Go.Proofs.YtlldbfpccdmclaaDoor
open Go.RowKit

/-- is a place among those ahead of it? -/
def ahead (l : List (Int × Int)) (i : Nat) : Bool := (List.range i).any fun k => decide (l.getD i (0, 0) = l.getD k (0, 0))
def dup (l : List (Int × Int)) : Bool := (List.range l.length).any (ahead l)

set_option maxRecDepth 100000 in
set_option maxHeartbeats 2000000 in
theorem twice_any (w : World) (a : Option Addr) (c : Nat) (l : List (Int × Int)) (hs : Sl w a l) (hsm : l.length ≤ 1000) :
    Calls Tryd.prog 23 #[.slice a l.length c] w fun e w' => e = .returned (.bool (dup l)) ∧ Below w.heap.size w w' := by
  obtain ⟨len, hl⟩ : ∃ len, l.length = len := ⟨_, rfl⟩
  have hdup : dup l = (List.range len).any (ahead l) := by unfold dup; rw [hl]
  obtain ⟨res, hres⟩ : ∃ res, dup l = res := ⟨_, rfl⟩
  rw [hres] at hdup ⊢
  rw [hl] at hsm ⊢
  have HL := Lib.hid hl
  have HD := Lib.hid hdup
  have HSl := Lib.hid hs
  clear hl hdup hres hs
  go_enter Tryd.func23, Tryd.ntmps23
  go_wp2_with fail
  go_loopw [3] (fun i wr => ∃ k : Nat, k ≤ len ∧ i = .int .i64 k ∧ (List.range k).any (ahead l) = false ∧ Below w.heap.size w wr) (fun i _ => len - (intOf i).toNat)
  case atStart => exact ⟨0, by omega, rfl, by simp, Below.refl _ _⟩
  case round =>
    obtain ⟨i, hi, rfl, hno, hB⟩ := hrel
    have HNO := Lib.hid hno
    clear hno
    by_cases hil : i < len
    · have hS := HSl.out.past hB
      obtain ⟨b, rest, rfl, hb⟩ : ∃ b rest, a = some ⟨b, 0, none⟩ ∧ Blk wr b 40 (atCells l ++ rest) := by
        rcases hS with ⟨_, h⟩ | h
        · rw [h] at HL; have := HL.out; simp at this; omega
        · exact h
      have HBb := Lib.hid hb
      clear hb hS
      go_wp2_with fail
      go_loopw [4] (fun j wq => ∃ k : Nat, k ≤ i ∧ j = .int .i64 k ∧ ((List.range k).any fun k => decide (l.getD i (0, 0) = l.getD k (0, 0))) = false ∧ Below wr.heap.size wr wq) (fun j _ => i - (intOf j).toNat)
      case atStart => exact ⟨0, by omega, rfl, by simp, Below.refl _ _⟩
      case round =>
        obtain ⟨k, hk, rfl, hnk, hBq⟩ := hrel
        have HNK := Lib.hid hnk
        clear hnk
        by_cases hki : k < i
        · have hb := HBb.out.past hBq
          obtain ⟨c0, c1⟩ := Sl.at hb i (by rw [HL.out]; exact hil)
          obtain ⟨d0, d1⟩ := Sl.at hb k (by rw [HL.out]; omega)
          have hkl : k < len := by omega
          have hany : ((List.range (k + 1)).any fun k => decide (l.getD i (0, 0) = l.getD k (0, 0))) = decide (l.getD i (0, 0) = l.getD k (0, 0)) := by rw [List.range_succ, List.any_append, HNK.out]; simp
          have htrue : decide (l.getD i (0, 0) = l.getD k (0, 0)) = true → res = true := by
            intro h
            rw [HD.out, List.any_eq_true]
            refine ⟨i, by simpa using hil, ?_⟩
            unfold ahead
            rw [List.any_eq_true]
            exact ⟨k, by simpa using hki, h⟩
          have HA := Lib.hid hany
          obtain ⟨⟨x1, x2⟩, hx⟩ : ∃ x, l.getD i (0, 0) = x := ⟨_, rfl⟩
          obtain ⟨⟨y1, y2⟩, hy⟩ : ∃ x, l.getD k (0, 0) = x := ⟨_, rfl⟩
          rw [hx] at c0 c1 htrue
          rw [hy] at d0 d1 htrue
          have HX := Lib.hid hx
          have HY := Lib.hid hy
          have HT := Lib.hid htrue
          have u40 := Tryd.underlying40
          have hp40 : Tryd.prog.stoodInHeld 40 = false := by kernel_rfl
          have hg40 : Tryd.prog.eqGuardType Tryd.prog.depth 40 = false := by kernel_rfl
          clear hb hany htrue hx hy
          by_cases e1 : x1 = y1
          · by_cases e2 : x2 = y2
            · subst e1 e2
              go_wp2_with fail
              go_quiet (fail)
              go_wp2
              go_ret
              exact ⟨by rw [HT.out (by simp)]; rfl, hB.trans ((hBq.trans (below_of_drewN _ _ |>.mono hBq.size)).mono hB.size)⟩
            · subst e1
              have f2 : (x2 == y2) = false := beq_eq_false_iff_ne.2 e2
              have HE2 := Lib.hid e2
              clear e2
              go_wp2_with fail
              go_quiet (fail)
              go_wp2
              go_roundw
              case rel => exact ⟨k + 1, by omega, by simp, by rw [HA.out, HX.out, HY.out]; simp [HE2.out], hBq.trans (below_of_drewN _ _ |>.mono hBq.size)⟩
              case measure => simp [intOf]; omega
          · have f1 : (x1 == y1) = false := beq_eq_false_iff_ne.2 e1
            have HE1 := Lib.hid e1
            clear e1
            go_wp2_with fail
            go_quiet (fail)
            go_wp2
            go_roundw
            case rel => exact ⟨k + 1, by omega, by simp, by rw [HA.out, HX.out, HY.out]; simp [HE1.out], hBq.trans (below_of_drewN _ _ |>.mono hBq.size)⟩
            case measure => simp [intOf]; omega
        · obtain rfl : k = i := by omega
          have hah : ahead l k = false := HNK.out
          have hn1 : (List.range (k + 1)).any (ahead l) = false := by rw [List.range_succ, List.any_append, HNO.out]; simp [hah]
          have HN1 := Lib.hid hn1
          clear hn1 hah
          go_wp2
          go_roundw
          case rel => exact ⟨k + 1, by omega, by simp, HN1.out, hB.trans (hBq.mono hB.size)⟩
          case measure => simp [intOf]; omega
    · obtain rfl : i = len := by omega
      go_wp2
      go_ret
      exact ⟨by rw [HD.out, HNO.out]; rfl, hB⟩
end Go.Proofs.YtlldbfpccdmclaaDoor
