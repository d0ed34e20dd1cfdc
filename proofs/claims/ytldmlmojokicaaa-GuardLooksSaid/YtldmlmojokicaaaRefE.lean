/- The document's entries, places and rights: silhouetteref04.Get, silhouetteref05.Idx, silhouetteref06's functions. -/
import Derived.Test.YtldmlmojokicaaaPath
import Derived.Deep.QuietTactic
import Derived.Laws.StructEq
namespace Go.Proofs.Ytldmlmojokicaaa
open Go.RowKit

theorem bit_any (w : World) (v n : Nat) (hv : v < 2 ^ 64) (hn : n < 64) :
    Calls Try.prog 70 #[.int .u64 (v : Int), .int .i64 (n : Int)] w fun e w' => e = .returned (.bool (v.testBit n)) ∧ w = w' := by
  have hb : v.testBit n = decide ((v : Int) / 2 ^ n % 2 = 1) := by
    rw [Nat.testBit_eq_decide_div_mod_eq, decide_eq_decide]
    have : ((v : Int) / 2 ^ n % 2) = ((v / 2 ^ n % 2 : Nat) : Int) := by simp
    rw [this]; omega
  have HB := Lib.hid hb
  clear hb
  have h0 : (0 : Int) ≤ n := by omega
  have h1 : (n : Int) < 64 := by omega
  go_enter Try.func70, Try.ntmps70
  go_wp2
  go_ret
  refine ⟨?_, rfl⟩
  rw [HB.out]
  have e : ((v : Int) / 2 ^ n).tmod 2 = (v : Int) / 2 ^ n % 2 := Int.tmod_eq_emod_of_nonneg (Int.ediv_nonneg (by omega) (by have : (0 : Int) < 2 ^ n := Int.pow_pos (by decide); omega))
  show Ending.returned (Value.bool (((v : Int) / 2 ^ n).tmod 2 == 1)) = _
  rw [e]
  congr 2

theorem tmod_512 (n : Int) : (0 ≤ n.tmod 512 → n % 512 = n.tmod 512) ∧ (n.tmod 512 < 0 → n % 512 = n.tmod 512 + 512) ∧ -512 < n.tmod 512 ∧ n.tmod 512 < 512 := by
  have h1 := Int.tmod_add_mul_tdiv n 512
  have h2 : n % 512 = n.tmod 512 % 512 := by
    conv => lhs; rw [← h1]
    rw [Int.add_mul_emod_self_left]
  have h3 := Int.tmod_lt_of_pos n (b := 512) (by decide)
  have h4 : -512 < n.tmod 512 := by
    have := Int.tmod_lt_of_pos (-n) (b := 512) (by decide)
    rw [Int.neg_tmod] at this; omega
  refine ⟨fun h => by omega, fun h => by omega, h4, h3⟩
theorem mod_any (w : World) (n : Int) :
    Calls Try.prog 75 #[.int .i64 n, .int .i64 512] w fun e w' => e = .returned (.int .i64 (n % 512)) ∧ w = w' := by
  obtain ⟨t1, t2, t3, t4⟩ := tmod_512 n
  have T1 := Lib.hid t1
  have T2 := Lib.hid t2
  clear t1 t2
  by_cases h : Int.tmod n 512 < 0
  · have h2 : (0 : Int) ≤ n.tmod 512 + 512 := by omega
    go_enter Try.func75, Try.ntmps75
    go_wp2
    go_ret
    exact ⟨by rw [T2.out h]; rfl, rfl⟩
  · go_enter Try.func75, Try.ntmps75
    go_wp2
    go_ret
    exact ⟨by rw [T1.out (by omega)]; rfl, rfl⟩
theorem ridx_any (w : World) (n lv : Int) :
    Calls Try.prog 32 #[.int .i64 n, .int .i64 lv] w fun e w' => e = .returned (.int .i64 (ix n lv)) ∧ w = w' := by
  have hm := mod_any w n
  have e3 : ix n 3 = n % 512 / 64 := by have h : ix n 3 = n / 64 % 8 := rfl; rw [h]; omega
  have e2 : ix n 2 = n % 512 / 8 % 8 := by have h : ix n 2 = n / 8 % 8 := rfl; rw [h]; omega
  have e1 : ix n 1 = n % 512 % 8 := by have h : ix n 1 = n / 1 % 8 := rfl; rw [h]; omega
  have e0 : lv ≠ 3 → lv ≠ 2 → lv ≠ 1 → ix n lv = 0 := by intro h3 h2 h1; unfold ix; rw [if_neg (by omega)]
  obtain ⟨m, hmm⟩ : ∃ m, n % 512 = m := ⟨_, rfl⟩
  have hm0 : 0 ≤ m := by omega
  have hm1 : m < 512 := by omega
  rw [hmm] at hm e1 e2 e3
  have d3 : m.tmod 8 = m % 8 := Int.tmod_eq_emod_of_nonneg hm0
  have d4 : (m / 8).tmod 8 = m / 8 % 8 := Int.tmod_eq_emod_of_nonneg (by omega)
  have HM := Lib.hid hm
  have E0 := Lib.hid e0
  have E1 := Lib.hid e1
  have E2 := Lib.hid e2
  have E3 := Lib.hid e3
  have D3 := Lib.hid d3
  have D4 := Lib.hid d4
  clear hm e0 e1 e2 e3 d3 d4 hmm
  by_cases h3 : lv = 3
  · subst h3
    rw [E3.out]
    go_enter Try.func32, Try.ntmps32
    go_wp2_with (go_at_call 75; (with_reducible refine HM.out.mono ?_); rintro e w' ⟨rfl, rfl⟩)
    go_ret
    exact ⟨rfl, rfl⟩
  · by_cases h2 : lv = 2
    · subst h2
      rw [E2.out]
      go_enter Try.func32, Try.ntmps32
      go_wp2_with (go_at_call 75; (with_reducible refine HM.out.mono ?_); rintro e w' ⟨rfl, rfl⟩)
      go_ret
      exact ⟨by first | rfl | (rw [← D4.out]; rfl), rfl⟩
    · by_cases h1 : lv = 1
      · subst h1
        rw [E1.out]
        go_enter Try.func32, Try.ntmps32
        go_wp2_with (go_at_call 75; (with_reducible refine HM.out.mono ?_); rintro e w' ⟨rfl, rfl⟩)
        go_ret
        exact ⟨by first | rfl | (rw [← D3.out]; rfl), rfl⟩
      · rw [E0.out h3 h2 h1]
        have f3 : (lv == 3) = false := by rw [beq_eq_false_iff_ne]; exact h3
        have f2 : (lv == 2) = false := by rw [beq_eq_false_iff_ne]; exact h2
        have f1 : (lv == 1) = false := by rw [beq_eq_false_iff_ne]; exact h1
        clear h1 h2 h3
        go_enter Try.func32, Try.ntmps32
        go_wp2_with (go_at_call 75; (with_reducible refine HM.out.mono ?_); rintro e w' ⟨rfl, rfl⟩)
        go_ret
        exact ⟨rfl, rfl⟩

/-- the places that are no flag's -/
def badAt (n : Nat) : Bool := decide (n = 3) || decide (n = 4) || (decide (8 ≤ n) && decide (n ≤ 11)) || (decide (32 ≤ n) && decide (n ≤ 62))
def badTo (v : Nat) : Nat → Bool
  | 0 => false
  | k + 1 => badTo v k || (v.testBit k && badAt k)
theorem badTo_any (v : Nat) : ∀ k, badTo v k = (List.range k).any fun j => v.testBit j && badAt j := by
  intro k
  induction k with
  | zero => rfl
  | succ k ih => rw [List.range_succ, List.any_append, ← ih]; simp [badTo]
theorem badMask_bit : ∀ n, n < 64 → badMask.testBit n = badAt n := by decide
theorem badTo_mask (v : Nat) (hv : v < 2 ^ 64) : badTo v 64 = (v &&& badMask != 0) := by
  rw [badTo_any, Bool.eq_iff_iff, bne_iff_ne, List.any_eq_true]
  constructor
  · rintro ⟨j, hj, h⟩ h0
    have hj' : j < 64 := by simpa using hj
    have : (v &&& badMask).testBit j = true := by rw [Nat.testBit_and, badMask_bit j hj']; exact h
    rw [h0] at this; simp at this
  · intro h
    obtain ⟨j, hj⟩ : ∃ j, (v &&& badMask).testBit j = true := by
      refine Classical.byContradiction fun hn => h (Nat.eq_of_testBit_eq fun i => ?_)
      cases hc : (v &&& badMask).testBit i with
      | false => simp
      | true => exact absurd ⟨i, hc⟩ hn
    rw [Nat.testBit_and] at hj
    have hv1 : v.testBit j = true := by revert hj; cases v.testBit j <;> simp
    have hj64 : j < 64 := by
      rcases Nat.lt_or_ge j 64 with h | h
      · exact h
      · rw [Nat.testBit_lt_two_pow (Nat.lt_of_lt_of_le hv (Nat.pow_le_pow_right (by decide) h))] at hv1; cases hv1
    exact ⟨j, by simpa using hj64, by rw [← badMask_bit j hj64]; exact hj⟩

theorem bit_open (w : World) (v n : Nat) (i : Int) (b : Bool) (hi : (n : Int) = i) (hb : v.testBit n = b) (hv : v < 2 ^ 64) (hn : n < 64) :
    Calls Try.prog 70 #[.int .u64 (v : Int), .int .i64 i] w fun e w' => e = .returned (.bool b) ∧ w = w' := by subst hi; subst hb; exact bit_any w v n hv hn
set_option maxRecDepth 100000 in
set_option maxHeartbeats 2000000 in
theorem refget_any (w : World) (v : Nat) (e : Pte) (he : pte v = e) (hv : v < 2 ^ 64) :
    Calls Try.prog 30 #[.int .u64 (v : Int)] w
      fun r w' => r = .returned (.agg #[.bool e.p, .bool e.w, .bool e.u, .bool e.a, .bool e.d, .bool e.ps, .bool e.nx, .bool e.bad, .int .i64 (e.f : Int)]) ∧ Below w.heap.size w w' := by
  have hb := fun W n hn => bit_any W v n hv hn
  have hp : v.testBit 0 = e.p ∧ v.testBit 1 = e.w ∧ v.testBit 2 = e.u ∧ v.testBit 5 = e.a ∧ v.testBit 6 = e.d ∧ v.testBit 7 = e.ps ∧ v.testBit 63 = e.nx ∧ badTo v 64 = e.bad ∧ v / 4096 % 1048576 = e.f := by
    subst he; exact ⟨rfl, rfl, rfl, rfl, rfl, rfl, rfl, badTo_mask v hv, rfl⟩
  obtain ⟨p0, p1, p2, p3, p4, p5, p6, p7, p8⟩ := hp
  have c0 := fun W => bit_open W v 0 0 _ rfl p0 hv (by decide)
  have c1 := fun W => bit_open W v 1 1 _ rfl p1 hv (by decide)
  have c2 := fun W => bit_open W v 2 2 _ rfl p2 hv (by decide)
  have c5 := fun W => bit_open W v 5 5 _ rfl p3 hv (by decide)
  have c6 := fun W => bit_open W v 6 6 _ rfl p4 hv (by decide)
  have c7 := fun W => bit_open W v 7 7 _ rfl p5 hv (by decide)
  have c63 := fun W => bit_open W v 63 63 _ rfl p6 hv (by decide)
  have C0 := Lib.hid c0
  have C1 := Lib.hid c1
  have C2 := Lib.hid c2
  have C5 := Lib.hid c5
  have C6 := Lib.hid c6
  have C7 := Lib.hid c7
  have C63 := Lib.hid c63
  have HBt := Lib.hid hb
  have P7 := Lib.hid p7
  have hf : (v : Int) / 4096 % 1048576 = (e.f : Int) := by rw [← p8]; rfl
  have hf2 : ((v : Int) / 4096).tmod 1048576 = (e.f : Int) := by rw [Int.tmod_eq_emod_of_nonneg (by omega), hf]
  have hf3 : (0 : Int) ≤ e.f := by omega
  have hf4 : (e.f : Int) < 1048576 := by omega
  have HF := Lib.hid hf
  have HF2 := Lib.hid hf2
  clear c0 c1 c2 c5 c6 c7 c63 hb p0 p1 p2 p3 p4 p5 p6 p7 p8 he hf hf2
  have hA := Below.refl w.heap.size w
  go_enter Try.func30, Try.ntmps30
  go_wp2_with (go_at_call 70; (first | (with_reducible refine (C0.out _).mono ?_) | (with_reducible refine (C1.out _).mono ?_) | (with_reducible refine (C2.out _).mono ?_) | (with_reducible refine (C5.out _).mono ?_) | (with_reducible refine (C6.out _).mono ?_) | (with_reducible refine (C7.out _).mono ?_) | (with_reducible refine (C63.out _).mono ?_)); rintro r w' ⟨rfl, rfl⟩)
  go_loopw [4] (fun i wr => ∃ k : Nat, k ≤ 64 ∧ i = .int .i64 k ∧ Blk wr w.heap.size 69 [.bool false, .bool false, .bool false, .bool false, .bool false, .bool false, .bool false, .bool false, .int .i64 0] ∧
    Blk wr (w.heap.size + 1) 69 [.bool e.p, .bool e.w, .bool e.u, .bool e.a, .bool e.d, .bool e.ps, .bool e.nx, .bool (badTo v k), .int .i64 0] ∧ Below w.heap.size w wr) (fun i _ => 64 - (intOf i).toNat)
  case atStart =>
    refine ⟨0, by omega, rfl, (Blk.new w _ _).alloc _, ?_, (hA.alloc (Nat.le_refl _) _).alloc (by simp) _⟩
    have := Blk.new (w.alloc (.cells #[.bool false, .bool false, .bool false, .bool false, .bool false, .bool false, .bool false, .bool false, .int .i64 0] 69)) 69 [.bool e.p, .bool e.w, .bool e.u, .bool e.a, .bool e.d, .bool e.ps, .bool e.nx, .bool false, .int .i64 0]
    simpa [badTo] using this
  case round =>
    obtain ⟨k, hk, rfl, h1, h2, hB⟩ := hrel
    by_cases hk64 : k < 64
    · have hk0 : (0 : Int) ≤ k := by omega
      have hk1 : (k : Int) < 64 := by omega
      have x7 := h2.cell (k := 7) rfl
      have f7 := h2.free 7
      have l1 := h1.lt
      have l2 := h2.lt
      obtain ⟨b0, hb0⟩ : ∃ b, badTo v k = b := ⟨_, rfl⟩
      have hnext : badTo v (k + 1) = (b0 || (v.testBit k && badAt k)) := by rw [badTo, hb0]
      obtain ⟨bt, hbt⟩ : ∃ b, v.testBit k = b := ⟨_, rfl⟩
      have hcall := fun W => bit_open W v k (k : Int) bt rfl hbt hv hk64
      rw [hb0] at x7 h2
      rw [hbt] at hnext
      have HC := Lib.hid hcall
      have H2 := Lib.hid h2
      have H1 := Lib.hid h1
      have HN := Lib.hid hnext
      clear hcall h2 h1 hnext hbt hb0
      cases bt
      · go_wp2_with (go_at_call 70; (with_reducible refine (HC.out _).mono ?_); rintro r w' ⟨rfl, rfl⟩)
        go_roundw
        case rel => exact ⟨k + 1, by omega, by simp, H1.out, by rw [HN.out]; simpa using H2.out, hB⟩
        case measure => simp [intOf]; omega
      · have hc : (k = 3) ∨ (k = 4) ∨ (8 ≤ k ∧ k ≤ 11) ∨ (32 ≤ k ∧ k ≤ 62) ∨ (k < 3) ∨ (5 ≤ k ∧ k ≤ 7) ∨ (12 ≤ k ∧ k ≤ 31) ∨ (k = 63) := by omega
        rcases hc with hc | hc | hc | hc | hc | hc | hc | hc
        · have hbad : badAt k = true := by unfold badAt; simp; omega
          rw [hbad] at HN
          have f3 : ((k : Int) == 3) = true := by rw [beq_iff_eq]; omega
          clear hc hbad
          go_wp2_with (go_at_call 70; (with_reducible refine (HC.out _).mono ?_); rintro r w' ⟨rfl, rfl⟩)
          go_roundw
          case rel => exact ⟨k + 1, by omega, by simp, H1.out.other (by simp) _, by rw [HN.out]; simpa using H2.out.set 7 (.bool true), hB.setCell (p := ⟨w.heap.size + 1, 7, none⟩) (by simp) _⟩
          case measure => simp [intOf]; omega
        · have hbad : badAt k = true := by unfold badAt; simp; omega
          rw [hbad] at HN
          have f3 : ((k : Int) == 3) = false := by rw [beq_eq_false_iff_ne]; omega
          have f4 : ((k : Int) == 4) = true := by rw [beq_iff_eq]; omega
          clear hc hbad
          go_wp2_with (go_at_call 70; (with_reducible refine (HC.out _).mono ?_); rintro r w' ⟨rfl, rfl⟩)
          go_roundw
          case rel => exact ⟨k + 1, by omega, by simp, H1.out.other (by simp) _, by rw [HN.out]; simpa using H2.out.set 7 (.bool true), hB.setCell (p := ⟨w.heap.size + 1, 7, none⟩) (by simp) _⟩
          case measure => simp [intOf]; omega
        · have hbad : badAt k = true := by unfold badAt; simp; omega
          rw [hbad] at HN
          have f3 : ((k : Int) == 3) = false := by rw [beq_eq_false_iff_ne]; omega
          have f4 : ((k : Int) == 4) = false := by rw [beq_eq_false_iff_ne]; omega
          have g8 : (8 : Int) ≤ k := by omega
          have g11 : (k : Int) ≤ 11 := by omega
          clear hc hbad
          go_wp2_with (go_at_call 70; (with_reducible refine (HC.out _).mono ?_); rintro r w' ⟨rfl, rfl⟩)
          go_roundw
          case rel => exact ⟨k + 1, by omega, by simp, H1.out.other (by simp) _, by rw [HN.out]; simpa using H2.out.set 7 (.bool true), hB.setCell (p := ⟨w.heap.size + 1, 7, none⟩) (by simp) _⟩
          case measure => simp [intOf]; omega
        · have hbad : badAt k = true := by unfold badAt; simp; omega
          rw [hbad] at HN
          have f3 : ((k : Int) == 3) = false := by rw [beq_eq_false_iff_ne]; omega
          have f4 : ((k : Int) == 4) = false := by rw [beq_eq_false_iff_ne]; omega
          have g8 : (8 : Int) ≤ k := by omega
          have g11 : decide ((k : Int) ≤ 11) = false := by rw [decide_eq_false_iff_not]; omega
          have g32 : (32 : Int) ≤ k := by omega
          have g62 : (k : Int) ≤ 62 := by omega
          clear hc hbad
          go_wp2_with (go_at_call 70; (with_reducible refine (HC.out _).mono ?_); rintro r w' ⟨rfl, rfl⟩)
          go_roundw
          case rel => exact ⟨k + 1, by omega, by simp, H1.out.other (by simp) _, by rw [HN.out]; simpa using H2.out.set 7 (.bool true), hB.setCell (p := ⟨w.heap.size + 1, 7, none⟩) (by simp) _⟩
          case measure => simp [intOf]; omega
        · have hbad : badAt k = false := by unfold badAt; simp; omega
          rw [hbad] at HN
          have f3 : ((k : Int) == 3) = false := by rw [beq_eq_false_iff_ne]; omega
          have f4 : ((k : Int) == 4) = false := by rw [beq_eq_false_iff_ne]; omega
          have g8 : decide ((8 : Int) ≤ (k : Int)) = false := by rw [decide_eq_false_iff_not]; omega
          have g32 : decide ((32 : Int) ≤ (k : Int)) = false := by rw [decide_eq_false_iff_not]; omega
          clear hc hbad
          go_wp2_with (go_at_call 70; (with_reducible refine (HC.out _).mono ?_); rintro r w' ⟨rfl, rfl⟩)
          go_roundw
          case rel => exact ⟨k + 1, by omega, by simp, H1.out, by rw [HN.out]; simpa using H2.out, hB⟩
          case measure => simp [intOf]; omega
        · have hbad : badAt k = false := by unfold badAt; simp; omega
          rw [hbad] at HN
          have f3 : ((k : Int) == 3) = false := by rw [beq_eq_false_iff_ne]; omega
          have f4 : ((k : Int) == 4) = false := by rw [beq_eq_false_iff_ne]; omega
          have g8 : decide ((8 : Int) ≤ (k : Int)) = false := by rw [decide_eq_false_iff_not]; omega
          have g32 : decide ((32 : Int) ≤ (k : Int)) = false := by rw [decide_eq_false_iff_not]; omega
          clear hc hbad
          go_wp2_with (go_at_call 70; (with_reducible refine (HC.out _).mono ?_); rintro r w' ⟨rfl, rfl⟩)
          go_roundw
          case rel => exact ⟨k + 1, by omega, by simp, H1.out, by rw [HN.out]; simpa using H2.out, hB⟩
          case measure => simp [intOf]; omega
        · have hbad : badAt k = false := by unfold badAt; simp; omega
          rw [hbad] at HN
          have f3 : ((k : Int) == 3) = false := by rw [beq_eq_false_iff_ne]; omega
          have f4 : ((k : Int) == 4) = false := by rw [beq_eq_false_iff_ne]; omega
          have g8 : (8 : Int) ≤ k := by omega
          have g11 : decide ((k : Int) ≤ 11) = false := by rw [decide_eq_false_iff_not]; omega
          have g32 : decide ((32 : Int) ≤ (k : Int)) = false := by rw [decide_eq_false_iff_not]; omega
          clear hc hbad
          go_wp2_with (go_at_call 70; (with_reducible refine (HC.out _).mono ?_); rintro r w' ⟨rfl, rfl⟩)
          go_roundw
          case rel => exact ⟨k + 1, by omega, by simp, H1.out, by rw [HN.out]; simpa using H2.out, hB⟩
          case measure => simp [intOf]; omega
        · have hbad : badAt k = false := by unfold badAt; simp; omega
          rw [hbad] at HN
          have f3 : ((k : Int) == 3) = false := by rw [beq_eq_false_iff_ne]; omega
          have f4 : ((k : Int) == 4) = false := by rw [beq_eq_false_iff_ne]; omega
          have g8 : (8 : Int) ≤ k := by omega
          have g11 : decide ((k : Int) ≤ 11) = false := by rw [decide_eq_false_iff_not]; omega
          have g32 : (32 : Int) ≤ k := by omega
          have g62 : decide ((k : Int) ≤ 62) = false := by rw [decide_eq_false_iff_not]; omega
          clear hc hbad
          go_wp2_with (go_at_call 70; (with_reducible refine (HC.out _).mono ?_); rintro r w' ⟨rfl, rfl⟩)
          go_roundw
          case rel => exact ⟨k + 1, by omega, by simp, H1.out, by rw [HN.out]; simpa using H2.out, hB⟩
          case measure => simp [intOf]; omega
    · obtain rfl : k = 64 := by omega
      rw [P7.out] at h2
      have x0 := h2.cell (k := 0) rfl
      have x1 := h2.cell (k := 1) rfl
      have x2 := h2.cell (k := 2) rfl
      have x3 := h2.cell (k := 3) rfl
      have x4 := h2.cell (k := 4) rfl
      have x5 := h2.cell (k := 5) rfl
      have x6 := h2.cell (k := 6) rfl
      have x7 := h2.cell (k := 7) rfl
      have x8 := h2.cell (k := 8) rfl
      have xf := fun j => h2.free j
      have y0 := h1.cell (k := 0) rfl
      have y1 := h1.cell (k := 1) rfl
      have y2 := h1.cell (k := 2) rfl
      have y3 := h1.cell (k := 3) rfl
      have y4 := h1.cell (k := 4) rfl
      have y5 := h1.cell (k := 5) rfl
      have y6 := h1.cell (k := 6) rfl
      have y7 := h1.cell (k := 7) rfl
      have y8 := h1.cell (k := 8) rfl
      have yf := fun j => h1.free j
      have l1 := h1.lt
      have l2 := h2.lt
      have hq1 := HF.out
      have hq2 := HF2.out
      have RR := (Blk.set (Blk.set (Blk.set (Blk.set (Blk.set (Blk.set (Blk.set (Blk.set (Blk.set (h1.other (a := ⟨w.heap.size + 1, 8, none⟩) (by simp) (.int .i64 (e.f : Int))) 0 (.bool e.p)) 1 (.bool e.w)) 2 (.bool e.u)) 3 (.bool e.a)) 4 (.bool e.d)) 5 (.bool e.ps)) 6 (.bool e.nx)) 7 (.bool e.bad)) 8 (.int .i64 (e.f : Int)))
      have BB := (Below.setCell (Below.setCell (Below.setCell (Below.setCell (Below.setCell (Below.setCell (Below.setCell (Below.setCell (Below.setCell (hB.setCell (p := ⟨w.heap.size + 1, 8, none⟩) (by simp) (.int .i64 (e.f : Int))) (p := ⟨w.heap.size, 0, none⟩) (Nat.le_refl _) (.bool e.p)) (p := ⟨w.heap.size, 1, none⟩) (Nat.le_refl _) (.bool e.w)) (p := ⟨w.heap.size, 2, none⟩) (Nat.le_refl _) (.bool e.u)) (p := ⟨w.heap.size, 3, none⟩) (Nat.le_refl _) (.bool e.a)) (p := ⟨w.heap.size, 4, none⟩) (Nat.le_refl _) (.bool e.d)) (p := ⟨w.heap.size, 5, none⟩) (Nat.le_refl _) (.bool e.ps)) (p := ⟨w.heap.size, 6, none⟩) (Nat.le_refl _) (.bool e.nx)) (p := ⟨w.heap.size, 7, none⟩) (Nat.le_refl _) (.bool e.bad)) (p := ⟨w.heap.size, 8, none⟩) (Nat.le_refl _) (.int .i64 (e.f : Int)))
      have HR := Lib.hid RR
      have HBB := Lib.hid BB
      clear h1 h2 RR BB
      go_wp2
      have R := HR.out
      have r0 := R.cell (k := 0) (v := .bool e.p) rfl
      have r1 := R.cell (k := 1) (v := .bool e.w) rfl
      have r2 := R.cell (k := 2) (v := .bool e.u) rfl
      have r3 := R.cell (k := 3) (v := .bool e.a) rfl
      have r4 := R.cell (k := 4) (v := .bool e.d) rfl
      have r5 := R.cell (k := 5) (v := .bool e.ps) rfl
      have r6 := R.cell (k := 6) (v := .bool e.nx) rfl
      have r7 := R.cell (k := 7) (v := .bool e.bad) rfl
      have r8 := R.cell (k := 8) (v := .int .i64 (e.f : Int)) rfl
      refine bodyPost_ret (v := .agg #[.bool e.p, .bool e.w, .bool e.u, .bool e.a, .bool e.d, .bool e.ps, .bool e.nx, .bool e.bad, .int .i64 (e.f : Int)]) ?_ rfl ⟨rfl, HBB.out⟩
      clear x0 x1 x2 x3 x4 x5 x6 x7 x8 xf y0 y1 y2 y3 y4 y5 y6 y7 y8 yf
      simp [results, Try.results30, go_sem, r0, r1, r2, r3, r4, r5, r6, r7, r8]

def under (a b : Rt) : Bool := (!a.w || b.w) && (!a.u || b.u) && (!a.x || b.x)
end Go.Proofs.Ytldmlmojokicaaa
