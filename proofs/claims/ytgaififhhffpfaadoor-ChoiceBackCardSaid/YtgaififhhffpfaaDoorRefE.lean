/- The document's entries, places and rights: silhouetteref04.Get, silhouetteref05.Idx, silhouetteref06's functions. -/
import Derived.Test.YtgaififhhffpfaaDoorPath
import Derived.Deep.QuietTactic
import Derived.Laws.StructEq
namespace Go.Proofs.YtgaififhhffpfaaDoor
open Go.RowKit

theorem tmod_512 (n : Int) : (0 ≤ n.tmod 512 → n % 512 = n.tmod 512) ∧ (n.tmod 512 < 0 → n % 512 = n.tmod 512 + 512) ∧ -512 < n.tmod 512 ∧ n.tmod 512 < 512 := by
  have h1 := Int.tmod_add_mul_tdiv n 512
  have h2 : n % 512 = n.tmod 512 % 512 := by
    conv => lhs; rw [← h1]
    rw [Int.add_mul_emod_self_left]
  have h3 := Int.tmod_lt_of_pos n (b := 512) (by decide)
  have h4 : -512 < n.tmod 512 := by
    have := Int.tmod_lt_of_pos (-n) (b := 512) (by decide)
    rw [Int.neg_tmod] at this; omega
  refine ⟨fun h => by omega, fun h => by omega, h4, h3⟩
/-- the places that are no flag's -/
def badAt (n : Nat) : Bool := decide (n = 3) || decide (n = 4) || (decide (8 ≤ n) && decide (n ≤ 11)) || (decide (32 ≤ n) && decide (n ≤ 62))
def badTo (v : Nat) : Nat → Bool
  | 0 => false
  | k + 1 => badTo v k || (v.testBit k && badAt k)
theorem badTo_any (v : Nat) : ∀ k, badTo v k = (List.range k).any fun j => v.testBit j && badAt j := by
  intro k
  induction k with
  | zero => rfl
  | succ k ih => rw [List.range_succ, List.any_append, ← ih]; simp [badTo]
theorem badMask_bit : ∀ n, n < 64 → badMask.testBit n = badAt n := by decide
theorem badTo_mask (v : Nat) (hv : v < 2 ^ 64) : badTo v 64 = (v &&& badMask != 0) := by
  rw [badTo_any, Bool.eq_iff_iff, bne_iff_ne, List.any_eq_true]
  constructor
  · rintro ⟨j, hj, h⟩ h0
    have hj' : j < 64 := by simpa using hj
    have : (v &&& badMask).testBit j = true := by rw [Nat.testBit_and, badMask_bit j hj']; exact h
    rw [h0] at this; simp at this
  · intro h
    obtain ⟨j, hj⟩ : ∃ j, (v &&& badMask).testBit j = true := by
      refine Classical.byContradiction fun hn => h (Nat.eq_of_testBit_eq fun i => ?_)
      cases hc : (v &&& badMask).testBit i with
      | false => simp
      | true => exact absurd ⟨i, hc⟩ hn
    rw [Nat.testBit_and] at hj
    have hv1 : v.testBit j = true := by revert hj; cases v.testBit j <;> simp
    have hj64 : j < 64 := by
      rcases Nat.lt_or_ge j 64 with h | h
      · exact h
      · rw [Nat.testBit_lt_two_pow (Nat.lt_of_lt_of_le hv (Nat.pow_le_pow_right (by decide) h))] at hv1; cases hv1
    exact ⟨j, by simpa using hj64, by rw [← badMask_bit j hj64]; exact hj⟩

def under (a b : Rt) : Bool := (!a.w || b.w) && (!a.u || b.u) && (!a.x || b.x)
end Go.Proofs.YtgaififhhffpfaaDoor
