/- frame.Mem's word and Get at any frame and place. -/
import Derived.Test.YtglohconhbcchaaGreatDoorGop
import Derived.Test.YtglohconhbcchaaGreatDoorFp
namespace Go.Proofs.YtglohconhbcchaaGreatDoor
open Go.RowKit Go.Shelf Go.Maps

set_option maxHeartbeats 1000000 in
theorem word_no (w : World) (fp fb n : Nat) (mem : List Nat) (H : Host w fp fb n mem) (f i : Int) (hno : ¬ (0 ≤ f ∧ f < n ∧ 0 ≤ i ∧ i < 8)) :
    Calls Tryz.prog 83 #[.pointer (some ⟨fp, 0, none⟩), .int .i64 f, .int .i64 i] w fun e w' => e = .returned (.pointer none) ∧ w = w' := by
  have c0 := H.hdr.cell (k := 0) rfl
  have l0 := H.hdr.lt
  have hs := H.small
  clear H
  by_cases h1 : f < 0
  · have f1 : decide (f < 0) = true := decide_eq_true h1
    clear hno
    go_enter Tryz.func83, Tryz.ntmps83
    go_wp2
    go_ret
    exact ⟨rfl, rfl⟩
  · have f1 : decide (f < 0) = false := decide_eq_false h1
    by_cases h2 : (n : Int) ≤ f
    · have f2 : decide (f ≥ (n : Int)) = true := decide_eq_true h2
      clear hno
      go_enter Tryz.func83, Tryz.ntmps83
      go_wp2
      go_ret
      exact ⟨rfl, rfl⟩
    · have f2 : decide (f ≥ (n : Int)) = false := decide_eq_false h2
      by_cases h3 : i < 0
      · have f3 : decide (i < 0) = true := decide_eq_true h3
        clear hno
        go_enter Tryz.func83, Tryz.ntmps83
        go_wp2
        go_ret
        exact ⟨rfl, rfl⟩
      · have f3 : decide (i < 0) = false := decide_eq_false h3
        have f4 : decide (i ≥ 8) = true := decide_eq_true (by omega)
        clear hno
        go_enter Tryz.func83, Tryz.ntmps83
        go_wp2
        go_ret
        exact ⟨rfl, rfl⟩
/-- frame.Mem.Get -/
theorem fget_any (w : World) (fp fb n : Nat) (mem : List Nat) (H : Host w fp fb n mem) (f i : Int) :
    Calls Tryz.prog 60 #[.pointer (some ⟨fp, 0, none⟩), .int .i64 f, .int .i64 i] w
      fun e w' => e = .returned (.tuple #[.int .u64 (((mget n mem f i).getD 0 : Nat) : Int), .bool (mget n mem f i).isSome]) ∧ w = w' := by
  by_cases hc : 0 ≤ f ∧ f < n ∧ 0 ≤ i ∧ i < 8
  · obtain ⟨h0, h1, h2, h3⟩ := hc
    obtain ⟨f, rfl⟩ := Int.eq_ofNat_of_zero_le h0
    obtain ⟨i, rfl⟩ := Int.eq_ofNat_of_zero_le h2
    have hw := wordI w fp fb n mem H f i (by omega) (by omega)
    have hlt : f * 8 + i < mem.length := by rw [H.len]; omega
    have he : mget n mem (f : Int) (i : Int) = some (mem.getD (f * 8 + i) 0) := by
      unfold mget
      rw [if_pos ⟨by omega, by omega, by omega, by omega⟩, Int.toNat_natCast, Int.toNat_natCast, List.getElem?_eq_getElem hlt, List.getD, List.getElem?_eq_getElem hlt]; rfl
    rw [he]
    obtain ⟨x, hx⟩ : ∃ x, mem.getD (f * 8 + i) 0 = x := ⟨_, rfl⟩
    have c0 : w.cell? ⟨fb, f * 8 + i, none⟩ = some (.int .u64 (x : Int)) := H.row.cell (by rw [List.getElem?_map, List.getElem?_eq_getElem hlt, ← hx, List.getD, List.getElem?_eq_getElem hlt]; rfl)
    have lf := H.row.lt
    rw [hx]
    have HW := Lib.hid hw
    clear hw hlt he hx H h0 h1 h2 h3
    go_enter Tryz.func60, Tryz.ntmps60
    go_wp2_with (go_at_call 83; (with_reducible refine HW.out.mono ?_); rintro e w' ⟨rfl, rfl⟩)
    go_ret2
    exact ⟨rfl, rfl⟩
  · have hw := word_no w fp fb n mem H f i hc
    have he : mget n mem f i = none := by unfold mget; rw [if_neg hc]
    rw [he]
    have HW := Lib.hid hw
    clear hw he hc H
    go_enter Tryz.func60, Tryz.ntmps60
    go_wp2_with (go_at_call 83; (with_reducible refine HW.out.mono ?_); rintro e w' ⟨rfl, rfl⟩)
    go_ret2
    exact ⟨rfl, rfl⟩
end Go.Proofs.YtglohconhbcchaaGreatDoor
