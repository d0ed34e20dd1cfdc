/- Addresses: va.Aligned, Canon, Page, Word; the document's Page, Word, Join. -/
import Derived.Test.YtgaififhhffpfaaGreatDoorRefE
import Derived.IntWalk
namespace Go.Proofs.YtgaififhhffpfaaGreatDoor
open Go.RowKit

theorem u64_mask (v k : Nat) (hk : k < 64) (hv : v < 2 ^ 64) : bits .and .u64 (v : Int) (((2 ^ k - 1 : Nat) : Int)) = ((v % 2 ^ k : Nat) : Int) := by
  have hlt : 2 ^ k ≤ 2 ^ 63 := Nat.pow_le_pow_right (by decide) (by omega)
  rw [u64_and_nat v (2 ^ k - 1) hv (by omega), Nat.and_two_pow_sub_one_eq_mod]
theorem cut03_any (w : World) (v : Nat) (r : Nat) (hr : v % 8 = r) (hv : v < 2 ^ 64) :
    Calls Tryz.prog 123 #[.int .u64 (v : Int), .int .i64 0, .int .i64 3] w fun e w' => e = .returned (.int .i64 (r : Int)) ∧ ∃ q, w' = w.drewN q := by
  have h := u64_mask v 3 (by decide) hv
  have hb : r < 8 := by rw [← hr]; exact Nat.mod_lt _ (by decide)
  have e : wrap64 (bits .and .u64 (v : Int) 7) = (r : Int) := by
    have e1 : bits .and .u64 (v : Int) 7 = (r : Int) := by rw [← hr]; simpa using h
    rw [e1]; unfold wrap64; omega
  have HE := Lib.hid e
  clear h hb hv hr e
  go_enter Tryz.func123, Tryz.ntmps123
  go_wp2
  go_quiet (fail)
  go_wp2
  go_ret
  exact ⟨congrArg (fun z => Ending.returned (Value.int .i64 z)) HE.out, _, rfl⟩
theorem cut69_any (w : World) (v : Nat) (r : Nat) (hr : (v / 64) % 512 = r) (hv : v < 2 ^ 64) :
    Calls Tryz.prog 123 #[.int .u64 (v : Int), .int .i64 6, .int .i64 9] w fun e w' => e = .returned (.int .i64 (r : Int)) ∧ ∃ q, w' = w.drewN q := by
  have h := u64_mask (v / 64) 9 (by decide) (Nat.lt_of_le_of_lt (Nat.div_le_self _ _) hv)
  have hb : r < 512 := by rw [← hr]; exact Nat.mod_lt _ (by decide)
  have e : wrap64 (bits .and .u64 ((v : Int) / 64) 511) = (r : Int) := by
    have e1 : bits .and .u64 ((v : Int) / 64) 511 = (r : Int) := by rw [← hr]; simpa using h
    rw [e1]; unfold wrap64; omega
  have HE := Lib.hid e
  clear h hb hv hr e
  go_enter Tryz.func123, Tryz.ntmps123
  go_wp2
  go_quiet (fail)
  go_wp2
  go_ret
  exact ⟨congrArg (fun z => Ending.returned (Value.int .i64 z)) HE.out, _, rfl⟩
theorem cut33_any (w : World) (v : Nat) (r : Nat) (hr : (v / 8) % 8 = r) (hv : v < 2 ^ 64) :
    Calls Tryz.prog 123 #[.int .u64 (v : Int), .int .i64 3, .int .i64 3] w fun e w' => e = .returned (.int .i64 (r : Int)) ∧ ∃ q, w' = w.drewN q := by
  have h := u64_mask (v / 8) 3 (by decide) (Nat.lt_of_le_of_lt (Nat.div_le_self _ _) hv)
  have hb : r < 8 := by rw [← hr]; exact Nat.mod_lt _ (by decide)
  have e : wrap64 (bits .and .u64 ((v : Int) / 8) 7) = (r : Int) := by
    have e1 : bits .and .u64 ((v : Int) / 8) 7 = (r : Int) := by rw [← hr]; simpa using h
    rw [e1]; unfold wrap64; omega
  have HE := Lib.hid e
  clear h hb hv hr e
  go_enter Tryz.func123, Tryz.ntmps123
  go_wp2
  go_quiet (fail)
  go_wp2
  go_ret
  exact ⟨congrArg (fun z => Ending.returned (Value.int .i64 z)) HE.out, _, rfl⟩
/-- the page and the word of an address -/
def pageOf (v : Nat) : Nat := v / 64 % 512
def wordOf (v : Nat) : Nat := v / 8 % 8
theorem page_any (w : World) (v : Nat) (hv : v < 2 ^ 64) : Calls Tryz.prog 69 #[.int .u64 (v : Int)] w fun e w' => e = .returned (.int .i64 (pageOf v : Int)) ∧ ∃ q, w' = w.drewN q := by
  have hc := cut69_any w v (pageOf v) rfl hv
  have HC := Lib.hid hc
  clear hc hv
  go_enter Tryz.func69, Tryz.ntmps69
  go_wp2_with (go_at_call 123; (with_reducible refine HC.out.mono ?_); rintro e w' ⟨rfl, q, rfl⟩)
  go_ret
  exact ⟨rfl, _, rfl⟩
theorem word_any (w : World) (v : Nat) (hv : v < 2 ^ 64) : Calls Tryz.prog 70 #[.int .u64 (v : Int)] w fun e w' => e = .returned (.int .i64 (wordOf v : Int)) ∧ ∃ q, w' = w.drewN q := by
  have hc := cut33_any w v (wordOf v) rfl hv
  have HC := Lib.hid hc
  clear hc hv
  go_enter Tryz.func70, Tryz.ntmps70
  go_wp2_with (go_at_call 123; (with_reducible refine HC.out.mono ?_); rintro e w' ⟨rfl, q, rfl⟩)
  go_ret
  exact ⟨rfl, _, rfl⟩
theorem aligned_any (w : World) (v : Nat) (b : Bool) (hb : decide (v % 8 = 0) = b) (hv : v < 2 ^ 64) : Calls Tryz.prog 66 #[.int .u64 (v : Int)] w fun e w' => e = .returned (.bool b) ∧ ∃ q, w' = w.drewN q := by
  have hc := cut03_any w v (v % 8) rfl hv
  obtain ⟨r, hr⟩ : ∃ r, v % 8 = r := ⟨_, rfl⟩
  rw [hr] at hc hb
  have HC := Lib.hid hc
  have HBb := Lib.hid hb
  clear hc hv hr hb
  go_enter Tryz.func66, Tryz.ntmps66
  go_wp2_with (go_at_call 123; (with_reducible refine HC.out.mono ?_); rintro e w' ⟨rfl, q, rfl⟩)
  go_ret
  refine ⟨?_, _, rfl⟩
  rw [← HBb.out]
  show Ending.returned (Value.bool ((r : Int) == 0)) = _
  congr 2
  rw [Bool.eq_iff_iff, beq_iff_eq, decide_eq_true_iff]; omega

/-- an address whose highest bit goes on -/
def wideOf (v : Nat) : Nat := if v % 32768 < 16384 then v % 32768 else v % 32768 + (2 ^ 64 - 32768)
theorem wide_eq (v : Nat) (_ : v < 2 ^ 64) : IntKind.u64.wrap (wrap64 (IntKind.u64.wrap ((v : Int) * 562949953421312)) / 562949953421312) = (wideOf v : Int) := by
  unfold wideOf wrap64
  rw [IntKind.wrap_u64, IntKind.wrap_u64]
  split <;> omega
theorem wide_any (w : World) (v : Nat) (r : Nat) (hr : wideOf v = r) (hv : v < 2 ^ 64) : Calls Tryz.prog 124 #[.int .u64 (v : Int)] w fun e w' => e = .returned (.int .u64 (r : Int)) ∧ w = w' := by
  have h := wide_eq v hv
  rw [hr] at h
  have H := Lib.hid h
  clear h hv hr
  go_enter Tryz.func124, Tryz.ntmps124
  go_wp2
  go_ret
  exact ⟨congrArg (fun z => Ending.returned (Value.int .u64 z)) H.out, rfl⟩
theorem canon_any (w : World) (v : Nat) (b : Bool) (hb : decide (wideOf v = v) = b) (hv : v < 2 ^ 64) : Calls Tryz.prog 67 #[.int .u64 (v : Int)] w fun e w' => e = .returned (.bool b) ∧ w = w' := by
  obtain ⟨r, hr⟩ : ∃ r, wideOf v = r := ⟨_, rfl⟩
  have hc := wide_any w v r hr hv
  rw [hr] at hb
  have HC := Lib.hid hc
  have HBb := Lib.hid hb
  clear hc hv hr hb
  go_enter Tryz.func67, Tryz.ntmps67
  go_wp2_with (go_at_call 124; (with_reducible refine HC.out.mono ?_); rintro e w' ⟨rfl, rfl⟩)
  go_ret
  refine ⟨?_, rfl⟩
  rw [← HBb.out]
  show Ending.returned (Value.bool ((r : Int) == (v : Int))) = _
  congr 2
  rw [Bool.eq_iff_iff, beq_iff_eq, decide_eq_true_iff]; omega

/-- the address of a page's word -/
def joinOf (n k : Nat) : Nat := 64 * n + 8 * k + (if 256 ≤ n then 18446744073709518848 else 0)
theorem join_facts (n k : Nat) (hn : n < 512) (hk : k < 8) : joinOf n k < 2 ^ 64 ∧ pageOf (joinOf n k) = n ∧ wordOf (joinOf n k) = k ∧ joinOf n k % 8 = 0 ∧ wideOf (joinOf n k) = joinOf n k := by
  unfold joinOf pageOf wordOf wideOf
  split <;> (refine ⟨by omega, by omega, by omega, by omega, ?_⟩; split <;> omega)
theorem mod8_any (w : World) (n : Nat) (hn : n < 8) :
    Calls Tryz.prog 59 #[.int .i64 (n : Int), .int .i64 8] w fun e w' => e = .returned (.int .i64 (n : Int)) ∧ w = w' := by
  have h1 : (n : Int).tmod 8 = (n : Int) := by rw [Int.tmod_eq_emod_of_nonneg (by omega)]; omega
  have h2 : (n : Int) % 8 = (n : Int) := by omega
  have h0 : (0 : Int) ≤ (n : Int) := by omega
  go_enter Tryz.func59, Tryz.ntmps59
  go_wp2
  go_ret
  exact ⟨rfl, rfl⟩
theorem join_hi (n k : Nat) (hc : 256 ≤ n) : 64 * (n : Int) + 8 * (k : Int) + 18446744073709518848 = (joinOf n k : Int) := by
  have e : joinOf n k = 64 * n + 8 * k + 18446744073709518848 := by unfold joinOf; rw [if_pos hc]
  have e2 : ((joinOf n k : Nat) : Int) = 64 * (n : Int) + 8 * (k : Int) + 18446744073709518848 := by omega
  exact e2.symm
set_option maxRecDepth 100000 in
theorem join_any (w : World) (n k r : Nat) (hr : joinOf n k = r) (hn : n < 512) (hk : k < 8) :
    Calls Tryz.prog 18 #[.int .i64 (n : Int), .int .i64 (k : Int)] w fun e w' => e = .returned (.int .u64 (r : Int)) ∧ w = w' := by
  have h1 := mod_any w n
  rw [show (n : Int) % 512 = (n : Int) by omega] at h1
  have h2 := mod8_any w k hk
  have H1 := Lib.hid h1
  have H2 := Lib.hid h2
  have n0 : (0 : Int) ≤ (n : Int) := by omega
  have n1 : (n : Int) < 512 := by omega
  have k0 : (0 : Int) ≤ (k : Int) := by omega
  have k1 : (k : Int) < 8 := by omega
  clear h1 h2
  by_cases hc : 256 ≤ n
  · have hz : 64 * (n : Int) + 8 * (k : Int) + 18446744073709518848 = (r : Int) := (join_hi n k hc).trans (congrArg Nat.cast hr)
    have HZ := Lib.hid hz
    have hc' : (256 : Int) ≤ (n : Int) := by omega
    clear hz hr hn hk hc
    go_enter Tryz.func18, Tryz.ntmps18
    go_wp2_with (go_at_call 59; (first | (with_reducible refine H1.out.mono ?_) | (with_reducible refine H2.out.mono ?_)); rintro e w' ⟨rfl, rfl⟩)
    go_ret
    exact ⟨congrArg (fun z => Ending.returned (Value.int .u64 z)) HZ.out, rfl⟩
  · have hz : 64 * (n : Int) + 8 * (k : Int) = (r : Int) := by
      rw [← hr]; unfold joinOf; rw [if_neg hc]; omega
    have HZ := Lib.hid hz
    have hc' : (n : Int) < 256 := by omega
    clear hz hr hn hk hc
    go_enter Tryz.func18, Tryz.ntmps18
    go_wp2_with (go_at_call 59; (first | (with_reducible refine H1.out.mono ?_) | (with_reducible refine H2.out.mono ?_)); rintro e w' ⟨rfl, rfl⟩)
    go_ret
    exact ⟨congrArg (fun z => Ending.returned (Value.int .u64 z)) HZ.out, rfl⟩
theorem rpage_any (w : World) (v : Nat) (hv : v < 2 ^ 64) : Calls Tryz.prog 88 #[.int .u64 (v : Int)] w fun e w' => e = .returned (.int .i64 (pageOf v : Int)) ∧ w = w' := by
  have e : (v : Int) / 64 % 512 = (pageOf v : Int) := by unfold pageOf; omega
  have e2 : ((v : Int) / 64).tmod 512 = (pageOf v : Int) := by rw [Int.tmod_eq_emod_of_nonneg (by omega), e]
  have hb : wrap64 (pageOf v : Int) = (pageOf v : Int) := by unfold wrap64 pageOf; omega
  have E2 := Lib.hid e2
  have HB := Lib.hid hb
  have HV := Lib.hid hv
  clear e e2 hb hv
  go_enter Tryz.func88, Tryz.ntmps88
  go_wp2
  go_ret
  refine ⟨congrArg (fun z => Ending.returned (Value.int .i64 z)) ?_, rfl⟩
  rw [show IntKind.u64.wrap ((v : Int) / 64) = (v : Int) / 64 from IntWalk.u64_in _ (by have := HV.out; omega), E2.out, HB.out]
theorem rword_any (w : World) (v : Nat) (hv : v < 2 ^ 64) : Calls Tryz.prog 91 #[.int .u64 (v : Int)] w fun e w' => e = .returned (.int .i64 (wordOf v : Int)) ∧ w = w' := by
  have e : (v : Int) / 8 % 8 = (wordOf v : Int) := by unfold wordOf; omega
  have e2 : ((v : Int) / 8).tmod 8 = (wordOf v : Int) := by rw [Int.tmod_eq_emod_of_nonneg (by omega), e]
  have hb : wrap64 (wordOf v : Int) = (wordOf v : Int) := by unfold wrap64 wordOf; omega
  have E2 := Lib.hid e2
  have HB := Lib.hid hb
  have HV := Lib.hid hv
  clear e e2 hb hv
  go_enter Tryz.func91, Tryz.ntmps91
  go_wp2
  go_ret
  refine ⟨congrArg (fun z => Ending.returned (Value.int .i64 z)) ?_, rfl⟩
  rw [show IntKind.u64.wrap ((v : Int) / 8) = (v : Int) / 8 from IntWalk.u64_in _ (by have := HV.out; omega), E2.out, HB.out]
end Go.Proofs.YtgaififhhffpfaaGreatDoor
