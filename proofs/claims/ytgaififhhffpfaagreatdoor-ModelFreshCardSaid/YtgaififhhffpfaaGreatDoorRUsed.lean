/- The document's Used (out of XRMark). -/
import Derived.Test.YtgaififhhffpfaaGreatDoorRefE
import Derived.Test.YtgaififhhffpfaaGreatDoorMark2
namespace Go.Proofs.YtgaififhhffpfaaGreatDoor
open Go.RowKit

theorem or_low {v k : Nat} (h : v.testBit k = false) : v ||| 2 ^ k = v + 2 ^ k := by
  have h1 : v / 2 ^ k % 2 = 0 := by
    rw [Nat.testBit_eq_decide_div_mod_eq, decide_eq_false_iff_not] at h
    omega
  have h2 : v % 2 ^ (k + 1) = v % 2 ^ k := by rw [Nat.pow_succ, Nat.mod_mul, h1]; simp
  have h3 : v % 2 ^ k < 2 ^ k := Nat.mod_lt _ (Nat.two_pow_pos k)
  obtain ⟨r, hr⟩ : ∃ r, v % 2 ^ (k + 1) = r := ⟨_, rfl⟩
  have hr2 : r < 2 ^ k := by rw [← hr, h2]; exact h3
  have hv : 2 ^ (k + 1) * (v / 2 ^ (k + 1)) + r = v := by rw [← hr]; exact Nat.div_add_mod v _
  have e1 : 2 ^ (k + 1) * (v / 2 ^ (k + 1)) + r = 2 ^ (k + 1) * (v / 2 ^ (k + 1)) ||| r := Nat.two_pow_add_eq_or_of_lt (by rw [Nat.pow_succ]; omega) _
  have e2 : 2 ^ k * 1 + r = 2 ^ k * 1 ||| r := Nat.two_pow_add_eq_or_of_lt hr2 _
  have e3 : 2 ^ (k + 1) * (v / 2 ^ (k + 1)) + (2 ^ k + r) = 2 ^ (k + 1) * (v / 2 ^ (k + 1)) ||| (2 ^ k + r) := Nat.two_pow_add_eq_or_of_lt (by rw [Nat.pow_succ]; omega) _
  rw [Nat.mul_one] at e2
  rw [← hv]
  conv => lhs; rw [e1, Nat.or_assoc, Nat.or_comm r, ← e2, ← e3]
  omega
theorem or_high {v k : Nat} (h : v.testBit k = true) : v ||| 2 ^ k = v := by
  refine Nat.eq_of_testBit_eq fun i => ?_
  rw [Nat.testBit_or, Nat.testBit_two_pow]
  by_cases hi : k = i
  · subst hi; rw [h]; rfl
  · simp [hi]
theorem rused_any (w : World) (v : Nat) (b : Bool) (u : Nat) (hu : usedW v b = u) (hv : v < 2 ^ 64) :
    Calls Tryz.prog 24 #[.int .u64 (v : Int), .bool b] w fun e w' => e = .returned (.int .u64 (u : Int)) ∧ w = w' := by
  obtain ⟨u1, h1⟩ : ∃ u, v ||| 32 = u := ⟨_, rfl⟩
  obtain ⟨u2, h2⟩ : ∃ u, u1 ||| 64 = u := ⟨_, rfl⟩
  have hu1 : u1 < 2 ^ 64 := by rw [← h1]; exact or_lt hv (by decide)
  have hu2 : u2 < 2 ^ 64 := by rw [← h2]; exact or_lt hu1 (by decide)
  have hfin : u = if b then u2 else u1 := by rw [← hu, ← h2, ← h1]; rfl
  obtain ⟨b5, hb5⟩ : ∃ b, v.testBit 5 = b := ⟨_, rfl⟩
  obtain ⟨b6, hb6⟩ : ∃ b, u1.testBit 6 = b := ⟨_, rfl⟩
  have c5 := bit_open w v 5 5 _ rfl hb5 hv (by decide)
  have c6 := bit_open w u1 6 6 _ rfl hb6 hu1 (by decide)
  have k5 : b5 = true → v = u1 := fun h => by rw [← h1]; exact (or_high (k := 5) (hb5.trans h)).symm
  have k5' : b5 = false → IntKind.u64.wrap ((v : Int) + 32) = (u1 : Int) := fun h => by
    have : u1 = v + 32 := by rw [← h1]; exact or_low (k := 5) (hb5.trans h)
    rw [IntWalk.u64_in _ (by omega)]; omega
  have k6 : b6 = true → u1 = u2 := fun h => by rw [← h2]; exact (or_high (k := 6) (hb6.trans h)).symm
  have k6' : b6 = false → IntKind.u64.wrap ((u1 : Int) + 64) = (u2 : Int) := fun h => by
    have : u2 = u1 + 64 := by rw [← h2]; exact or_low (k := 6) (hb6.trans h)
    rw [IntWalk.u64_in _ (by omega)]; omega
  have C5 := Lib.hid c5
  have C6 := Lib.hid c6
  have HF := Lib.hid hfin
  clear c5 c6 hfin hu h1 h2 hb5 hb6 hu1 hu2 hv
  cases b5 with
  | true =>
    obtain rfl := k5 rfl
    clear k5 k5'
    cases b6 with
    | true =>
      obtain rfl := k6 rfl
      clear k6 k6'
      cases b
      · have hu' := HF.out
        simp only [Bool.false_eq_true, if_false] at hu'
        subst hu'
        clear HF
        go_enter Tryz.func24, Tryz.ntmps24
        go_wp2_with (go_at_call 72; (first | (with_reducible refine C5.out.mono ?_) | (with_reducible refine C6.out.mono ?_)); rintro e w' ⟨rfl, rfl⟩)
        go_ret
        exact ⟨rfl, rfl⟩
      · have hu' := HF.out
        simp only [if_true] at hu'
        subst hu'
        clear HF
        go_enter Tryz.func24, Tryz.ntmps24
        go_wp2_with (go_at_call 72; (first | (with_reducible refine C5.out.mono ?_) | (with_reducible refine C6.out.mono ?_)); rintro e w' ⟨rfl, rfl⟩)
        go_ret
        exact ⟨rfl, rfl⟩
    | false =>
      have q6 := k6' rfl
      clear k6 k6'
      have Q6 := Lib.hid q6
      clear q6
      cases b
      · have hu' := HF.out
        simp only [Bool.false_eq_true, if_false] at hu'
        subst hu'
        clear HF
        go_enter Tryz.func24, Tryz.ntmps24
        go_wp2_with (go_at_call 72; (first | (with_reducible refine C5.out.mono ?_) | (with_reducible refine C6.out.mono ?_)); rintro e w' ⟨rfl, rfl⟩)
        go_ret
        exact ⟨rfl, rfl⟩
      · have hu' := HF.out
        simp only [if_true] at hu'
        subst hu'
        clear HF
        go_enter Tryz.func24, Tryz.ntmps24
        go_wp2_with (go_at_call 72; (first | (with_reducible refine C5.out.mono ?_) | (with_reducible refine C6.out.mono ?_)); rintro e w' ⟨rfl, rfl⟩)
        go_ret
        exact ⟨congrArg (fun z => Ending.returned (Value.int .u64 z)) Q6.out, rfl⟩
  | false =>
    have q5 := k5' rfl
    clear k5 k5'
    cases b6 with
    | true =>
      obtain rfl := k6 rfl
      clear k6 k6'
      cases b
      · have hu' := HF.out
        simp only [Bool.false_eq_true, if_false] at hu'
        subst hu'
        clear HF
        go_enter Tryz.func24, Tryz.ntmps24
        go_wp2_with (go_at_call 72; (first | (with_reducible refine C5.out.mono ?_) | (with_reducible refine C6.out.mono ?_)); rintro e w' ⟨rfl, rfl⟩)
        go_ret
        exact ⟨by first | rfl | exact congrArg (fun z => Ending.returned (Value.int .u64 z)) q5, rfl⟩
      · have hu' := HF.out
        simp only [if_true] at hu'
        subst hu'
        clear HF
        go_enter Tryz.func24, Tryz.ntmps24
        go_wp2_with (go_at_call 72; (first | (with_reducible refine C5.out.mono ?_) | (with_reducible refine C6.out.mono ?_)); rintro e w' ⟨rfl, rfl⟩)
        go_ret
        exact ⟨by first | rfl | exact congrArg (fun z => Ending.returned (Value.int .u64 z)) q5, rfl⟩
    | false =>
      have q6 := k6' rfl
      clear k6 k6'
      cases b
      · have hu' := HF.out
        simp only [Bool.false_eq_true, if_false] at hu'
        subst hu'
        clear HF
        go_enter Tryz.func24, Tryz.ntmps24
        go_wp2_with (go_at_call 72; (first | (with_reducible refine C5.out.mono ?_) | (with_reducible refine C6.out.mono ?_)); rintro e w' ⟨rfl, rfl⟩)
        go_ret
        exact ⟨by first | rfl | exact congrArg (fun z => Ending.returned (Value.int .u64 z)) q5, rfl⟩
      · have hu' := HF.out
        simp only [if_true] at hu'
        subst hu'
        clear HF
        go_enter Tryz.func24, Tryz.ntmps24
        go_wp2_with (go_at_call 72; (first | (with_reducible refine C5.out.mono ?_) | (with_reducible refine C6.out.mono ?_)); rintro e w' ⟨rfl, rfl⟩)
        go_ret
        exact ⟨by first | rfl | exact congrArg (fun z => Ending.returned (Value.int .u64 z)) q6, rfl⟩

end Go.Proofs.YtgaififhhffpfaaGreatDoor
