/- Entries of tables: what pte.Get makes of a word. -/
import Derived.Test.YtgaififhhffpfaaGreatDoorMem
import Derived.StillTailTactics
import Derived.Outline
import Derived.Lib.Hide
namespace Go.Proofs.YtgaififhhffpfaaGreatDoor
open Go.RowKit

theorem flags_any (w : World) (b : Nat) :
    Calls Tryz.prog 140 #[.pointer (some ⟨b, 0, none⟩)] w
      fun e w' => e = .returned (.agg #[.pointer (some ⟨b, 0, none⟩), .int .u64 1, .pointer (some ⟨b, 1, none⟩), .int .u64 2, .pointer (some ⟨b, 2, none⟩), .int .u64 4, .pointer (some ⟨b, 3, none⟩), .int .u64 32, .pointer (some ⟨b, 4, none⟩), .int .u64 64, .pointer (some ⟨b, 5, none⟩), .int .u64 128, .pointer (some ⟨b, 6, none⟩), .int .u64 9223372036854775808]) ∧ Below w.heap.size w w' := by
  go_enter Tryz.func140, Tryz.ntmps140
  go_wp2
  go_region
  all_goals go_wp2
  all_goals go_returns
  all_goals exact ⟨rfl, ((Below.refl _ _).alloc (Nat.le_refl _) _).drew⟩

/-- the flags' bits, in order -/
def fbit (k : Nat) : Nat := [1, 2, 4, 32, 64, 128, 9223372036854775808].getD k 0
def flg (v : Nat) (k : Nat) : Bool := bits .and .u64 (v : Int) (fbit k : Int) != 0
def rest (v : Nat) : Nat → Int
  | 0 => bits .andNot .u64 (v : Int) 4294963200
  | k + 1 => bits .andNot .u64 (rest v k) (fbit k : Int)
def fcell (v k j : Nat) : Value := .bool (if j < k then flg v j else false)
def pcells (v k : Nat) : List Value := [fcell v k 0, fcell v k 1, fcell v k 2, fcell v k 3, fcell v k 4, fcell v k 5, fcell v k 6, .bool false, .int .i64 0]
theorem pcells_set (v k : Nat) (hk : k < 7) : (pcells v k).set k (.bool (flg v k)) = pcells v (k + 1) := by
  match k, hk with
  | 0, _ => rfl
  | 1, _ => rfl
  | 2, _ => rfl
  | 3, _ => rfl
  | 4, _ => rfl
  | 5, _ => rfl
  | 6, _ => rfl
theorem pcells_at (v k : Nat) (hk : k < 7) : (pcells v k)[k]? = some (.bool false) := by
  match k, hk with
  | 0, _ => rfl
  | 1, _ => rfl
  | 2, _ => rfl
  | 3, _ => rfl
  | 4, _ => rfl
  | 5, _ => rfl
  | 6, _ => rfl
theorem flag_at0 (b : Nat) (w : World) : (Instr.index 212 (.agg #[.pointer (some ⟨b, 0, none⟩), .int .u64 1, .pointer (some ⟨b, 1, none⟩), .int .u64 2, .pointer (some ⟨b, 2, none⟩), .int .u64 4, .pointer (some ⟨b, 3, none⟩), .int .u64 32, .pointer (some ⟨b, 4, none⟩), .int .u64 64, .pointer (some ⟨b, 5, none⟩), .int .u64 128, .pointer (some ⟨b, 6, none⟩), .int .u64 9223372036854775808]) (.int .i64 0)).run Tryz.prog w = .ok (.agg #[.pointer (some ⟨b, 0, none⟩), .int .u64 1]) w := by kernel_rfl
theorem flag_at1 (b : Nat) (w : World) : (Instr.index 212 (.agg #[.pointer (some ⟨b, 0, none⟩), .int .u64 1, .pointer (some ⟨b, 1, none⟩), .int .u64 2, .pointer (some ⟨b, 2, none⟩), .int .u64 4, .pointer (some ⟨b, 3, none⟩), .int .u64 32, .pointer (some ⟨b, 4, none⟩), .int .u64 64, .pointer (some ⟨b, 5, none⟩), .int .u64 128, .pointer (some ⟨b, 6, none⟩), .int .u64 9223372036854775808]) (.int .i64 1)).run Tryz.prog w = .ok (.agg #[.pointer (some ⟨b, 1, none⟩), .int .u64 2]) w := by kernel_rfl
theorem flag_at2 (b : Nat) (w : World) : (Instr.index 212 (.agg #[.pointer (some ⟨b, 0, none⟩), .int .u64 1, .pointer (some ⟨b, 1, none⟩), .int .u64 2, .pointer (some ⟨b, 2, none⟩), .int .u64 4, .pointer (some ⟨b, 3, none⟩), .int .u64 32, .pointer (some ⟨b, 4, none⟩), .int .u64 64, .pointer (some ⟨b, 5, none⟩), .int .u64 128, .pointer (some ⟨b, 6, none⟩), .int .u64 9223372036854775808]) (.int .i64 2)).run Tryz.prog w = .ok (.agg #[.pointer (some ⟨b, 2, none⟩), .int .u64 4]) w := by kernel_rfl
theorem flag_at3 (b : Nat) (w : World) : (Instr.index 212 (.agg #[.pointer (some ⟨b, 0, none⟩), .int .u64 1, .pointer (some ⟨b, 1, none⟩), .int .u64 2, .pointer (some ⟨b, 2, none⟩), .int .u64 4, .pointer (some ⟨b, 3, none⟩), .int .u64 32, .pointer (some ⟨b, 4, none⟩), .int .u64 64, .pointer (some ⟨b, 5, none⟩), .int .u64 128, .pointer (some ⟨b, 6, none⟩), .int .u64 9223372036854775808]) (.int .i64 3)).run Tryz.prog w = .ok (.agg #[.pointer (some ⟨b, 3, none⟩), .int .u64 32]) w := by kernel_rfl
theorem flag_at4 (b : Nat) (w : World) : (Instr.index 212 (.agg #[.pointer (some ⟨b, 0, none⟩), .int .u64 1, .pointer (some ⟨b, 1, none⟩), .int .u64 2, .pointer (some ⟨b, 2, none⟩), .int .u64 4, .pointer (some ⟨b, 3, none⟩), .int .u64 32, .pointer (some ⟨b, 4, none⟩), .int .u64 64, .pointer (some ⟨b, 5, none⟩), .int .u64 128, .pointer (some ⟨b, 6, none⟩), .int .u64 9223372036854775808]) (.int .i64 4)).run Tryz.prog w = .ok (.agg #[.pointer (some ⟨b, 4, none⟩), .int .u64 64]) w := by kernel_rfl
theorem flag_at5 (b : Nat) (w : World) : (Instr.index 212 (.agg #[.pointer (some ⟨b, 0, none⟩), .int .u64 1, .pointer (some ⟨b, 1, none⟩), .int .u64 2, .pointer (some ⟨b, 2, none⟩), .int .u64 4, .pointer (some ⟨b, 3, none⟩), .int .u64 32, .pointer (some ⟨b, 4, none⟩), .int .u64 64, .pointer (some ⟨b, 5, none⟩), .int .u64 128, .pointer (some ⟨b, 6, none⟩), .int .u64 9223372036854775808]) (.int .i64 5)).run Tryz.prog w = .ok (.agg #[.pointer (some ⟨b, 5, none⟩), .int .u64 128]) w := by kernel_rfl
theorem flag_at6 (b : Nat) (w : World) : (Instr.index 212 (.agg #[.pointer (some ⟨b, 0, none⟩), .int .u64 1, .pointer (some ⟨b, 1, none⟩), .int .u64 2, .pointer (some ⟨b, 2, none⟩), .int .u64 4, .pointer (some ⟨b, 3, none⟩), .int .u64 32, .pointer (some ⟨b, 4, none⟩), .int .u64 64, .pointer (some ⟨b, 5, none⟩), .int .u64 128, .pointer (some ⟨b, 6, none⟩), .int .u64 9223372036854775808]) (.int .i64 6)).run Tryz.prog w = .ok (.agg #[.pointer (some ⟨b, 6, none⟩), .int .u64 9223372036854775808]) w := by kernel_rfl
theorem flag_at (b k : Nat) (hk : k < 7) (w : World) : (Instr.index 212 (.agg #[.pointer (some ⟨b, 0, none⟩), .int .u64 1, .pointer (some ⟨b, 1, none⟩), .int .u64 2, .pointer (some ⟨b, 2, none⟩), .int .u64 4, .pointer (some ⟨b, 3, none⟩), .int .u64 32, .pointer (some ⟨b, 4, none⟩), .int .u64 64, .pointer (some ⟨b, 5, none⟩), .int .u64 128, .pointer (some ⟨b, 6, none⟩), .int .u64 9223372036854775808]) (.int .i64 (k : Int))).run Tryz.prog w = .ok (.agg #[.pointer (some ⟨b, k, none⟩), .int .u64 (fbit k : Int)]) w := by
  match k, hk with
  | 0, _ => exact flag_at0 b w
  | 1, _ => exact flag_at1 b w
  | 2, _ => exact flag_at2 b w
  | 3, _ => exact flag_at3 b w
  | 4, _ => exact flag_at4 b w
  | 5, _ => exact flag_at5 b w
  | 6, _ => exact flag_at6 b w

theorem pget_raw (w : World) (v : Nat) :
    Calls Tryz.prog 101 #[.int .u64 (v : Int)] w
      fun e w' => e = .returned (.agg #[.bool (flg v 0), .bool (flg v 1), .bool (flg v 2), .bool (flg v 3), .bool (flg v 4), .bool (flg v 5), .bool (flg v 6), .bool (rest v 7 != 0), .int .i64 (wrap64 (bits .and .u64 ((v : Int) / 4096) 1048575))]) ∧ Below w.heap.size w w' := by
  go_enter Tryz.func101, Tryz.ntmps101
  go_wp2_with (go_at_call 140; refine (flags_any _ _).mono ?_; rintro e W ⟨rfl, hB⟩)
  have hidx := flag_at (w.heap.size + 1)
  have hb0 : Blk W w.heap.size 146 (pcells v 0) := ((Blk.new w 146 (pcells v 0)).alloc _).past hB
  have hb1 : Blk W (w.heap.size + 1) 146 (pcells v 0) := by
    have h := (Blk.new (w.alloc (.cells (pcells v 0).toArray 146)) 146 (pcells v 0)).past hB
    simpa using h
  have hBB : Below w.heap.size w W := (((Below.refl _ w).alloc (Nat.le_refl _) _).alloc (by simp) _).trans (hB.mono (by simp; omega))
  have hsz : w.heap.size + 1 < W.heap.size := by have := hb1.lt; exact this
  clear hB
  go_loopw [4, 10] (fun r i wr => ∃ k : Nat, k ≤ 7 ∧ i = .int .i64 k ∧ r = .int .u64 (rest v k) ∧ Blk wr (w.heap.size + 1) 146 (pcells v k) ∧ Blk wr w.heap.size 146 (pcells v 0) ∧ Below w.heap.size w wr) (fun _ i _ => 7 - (intOf i).toNat)
  case atStart => exact ⟨0, by omega, rfl, rfl, hb1, hb0, hBB⟩
  case round =>
    obtain ⟨k, hk, rfl, rfl, hr1, hr0, hrB⟩ := hrel
    clear hb0 hb1 hBB hsz
    have hlt1 := hr1.lt
    by_cases h7 : k < 7
    · have hi := hidx k h7
      have hc := hr1.cell (pcells_at v k h7)
      have hf := hr1.free k
      have hset := pcells_set v k h7
      clear hidx
      have Hset := Lib.hid hset
      clear hset
      go_wp2
      go_roundw
      case rel =>
        refine ⟨k + 1, by omega, by go_num, rfl, ?_, (hr0.other (by simp) _).alloc _, (hrB.setCell (by simp) _).alloc (by simp; exact hrB.size) _⟩
        have := hr1.set k (.bool (flg v k))
        rw [Hset.out] at this
        exact this.alloc _
      case measure => simp [intOf]; omega
    · obtain rfl : k = 7 := by omega
      clear hidx
      have f1 := fun k => hr1.free k
      have f0 := fun k => hr0.free k
      have hlt0 := hr0.lt
      have a0 := hr1.cell (k := 0) (v := .bool (flg v 0)) rfl
      have a1 := hr1.cell (k := 1) (v := .bool (flg v 1)) rfl
      have a2 := hr1.cell (k := 2) (v := .bool (flg v 2)) rfl
      have a3 := hr1.cell (k := 3) (v := .bool (flg v 3)) rfl
      have a4 := hr1.cell (k := 4) (v := .bool (flg v 4)) rfl
      have a5 := hr1.cell (k := 5) (v := .bool (flg v 5)) rfl
      have a6 := hr1.cell (k := 6) (v := .bool (flg v 6)) rfl
      have a7 := hr1.cell (k := 7) rfl
      have a8 := hr1.cell (k := 8) rfl
      have b0 := hr0.cell (k := 0) (v := .bool false) rfl
      have b1 := hr0.cell (k := 1) (v := .bool false) rfl
      have b2 := hr0.cell (k := 2) (v := .bool false) rfl
      have b3 := hr0.cell (k := 3) (v := .bool false) rfl
      have b4 := hr0.cell (k := 4) (v := .bool false) rfl
      have b5 := hr0.cell (k := 5) (v := .bool false) rfl
      have b6 := hr0.cell (k := 6) (v := .bool false) rfl
      have b7 := hr0.cell (k := 7) rfl
      have b8 := hr0.cell (k := 8) rfl
      go_wp2
      refine bodyPost_ret (v := .agg #[.bool (flg v 0), .bool (flg v 1), .bool (flg v 2), .bool (flg v 3), .bool (flg v 4), .bool (flg v 5), .bool (flg v 6), .bool (rest v 7 != 0), .int .i64 (wrap64 (bits .and .u64 ((v : Int) / 4096) 1048575))]) (by simp [results, Tryz.results101, go_sem, b0, b1, b2, b3, b4, b5, b6, b7, b8]) rfl ⟨rfl, ?_⟩
      go_grown

/-- An entry of a table. -/
structure Pte where
  p : Bool
  w : Bool
  u : Bool
  a : Bool
  d : Bool
  ps : Bool
  nx : Bool
  bad : Bool
  f : Nat
  deriving DecidableEq

def badMask : Nat := 9223372032559812376
def pte (v : Nat) : Pte := ⟨v.testBit 0, v.testBit 1, v.testBit 2, v.testBit 5, v.testBit 6, v.testBit 7, v.testBit 63, v &&& badMask != 0, v / 4096 % 1048576⟩
/-- an entry as a value -/
def Pte.val (e : Pte) : Array Value := #[.bool e.p, .bool e.w, .bool e.u, .bool e.a, .bool e.d, .bool e.ps, .bool e.nx, .bool e.bad, .int .i64 (e.f : Int)]

theorem flg_bit (v k : Nat) (n : Nat) (hv : v < 2 ^ 64) (h : fbit k = 2 ^ n) (hn : n < 64) : flg v k = v.testBit n := by
  unfold flg
  rw [h, u64_and_nat v (2 ^ n) (by omega) (Nat.lt_of_lt_of_le (Nat.pow_lt_pow_right (by decide) hn) (by decide)), nat_bit, Nat.testBit_eq_decide_div_mod_eq]
  have h2 : v / 2 ^ n % 2 = 0 ∨ v / 2 ^ n % 2 = 1 := by omega
  have hp : 2 ^ n ≠ 0 := by simp
  rcases h2 with h2 | h2 <;> rw [h2]
  · simp
  · simp
    exact_mod_cast hp
theorem rest_nat (v : Nat) (hv : v < 2 ^ 64) : rest v 7 = ((v &&& badMask : Nat) : Int) := by
  have e0 : rest v 0 = ((v &&& 18446744069414588415 : Nat) : Int) := u64_andNot_nat v 4294963200 (by omega) (by omega)
  have step : ∀ (k M M' b : Nat), rest v k = ((v &&& M : Nat) : Int) → fbit k = b → b < 18446744073709551616 → M &&& (18446744073709551615 - b) = M' → M < 18446744073709551616 → rest v (k + 1) = ((v &&& M' : Nat) : Int) := by
    intro k M M' b h1 h2 h3 h4 h5
    show bits .andNot .u64 (rest v k) (fbit k : Int) = _
    rw [h1, h2, u64_andNot_nat _ _ (Nat.lt_of_le_of_lt Nat.and_le_right h5) h3, Nat.and_assoc, h4]
  have e1 := step 0 _ 18446744069414588414 1 e0 rfl (by decide) (by decide) (by decide)
  have e2 := step 1 _ 18446744069414588412 2 e1 rfl (by decide) (by decide) (by decide)
  have e3 := step 2 _ 18446744069414588408 4 e2 rfl (by decide) (by decide) (by decide)
  have e4 := step 3 _ 18446744069414588376 32 e3 rfl (by decide) (by decide) (by decide)
  have e5 := step 4 _ 18446744069414588312 64 e4 rfl (by decide) (by decide) (by decide)
  have e6 := step 5 _ 18446744069414588184 128 e5 rfl (by decide) (by decide) (by decide)
  exact step 6 _ badMask 9223372036854775808 e6 rfl (by decide) (by decide) (by decide)
theorem frame_nat (v : Nat) (hv : v < 2 ^ 64) : wrap64 (bits .and .u64 ((v : Int) / 4096) 1048575) = ((v / 4096 % 1048576 : Nat) : Int) := by
  have h : bits .and .u64 ((v : Int) / 4096) 1048575 = ((v / 4096 &&& 1048575 : Nat) : Int) := by
    have := u64_and_nat (v / 4096) 1048575 (by omega) (by omega)
    rw [← this]; rfl
  rw [h, nat_mask20]
  unfold wrap64
  omega

theorem pget_any (w : World) (v : Nat) (hv : v < 2 ^ 64) :
    Calls Tryz.prog 101 #[.int .u64 (v : Int)] w
      fun e w' => e = .returned (.agg (pte v).val) ∧ Below w.heap.size w w' := by
  refine (pget_raw w v).mono ?_
  rintro e w' ⟨rfl, hb⟩
  refine ⟨?_, hb⟩
  rw [flg_bit v 0 0 hv rfl (by omega), flg_bit v 1 1 hv rfl (by omega), flg_bit v 2 2 hv rfl (by omega), flg_bit v 3 5 hv rfl (by omega), flg_bit v 4 6 hv rfl (by omega), flg_bit v 5 7 hv rfl (by omega), flg_bit v 6 63 hv rfl (by omega), rest_nat v hv, frame_nat v hv]
  have e : ((((v &&& badMask : Nat) : Int)) != 0) = (v &&& badMask != 0) := by
    rw [Bool.eq_iff_iff, bne_iff_ne, bne_iff_ne]; omega
  rw [e]
  rfl

theorem pget_open (w : World) (v : Nat) (e : Pte) (he : pte v = e) (hv : v < 2 ^ 64) :
    Calls Tryz.prog 101 #[.int .u64 (v : Int)] w
      fun r w' => r = .returned (.agg #[.bool e.p, .bool e.w, .bool e.u, .bool e.a, .bool e.d, .bool e.ps, .bool e.nx, .bool e.bad, .int .i64 (e.f : Int)]) ∧ Below w.heap.size w w' := he ▸ pget_any w v hv

end Go.Proofs.YtgaififhhffpfaaGreatDoor
