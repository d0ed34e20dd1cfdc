/- Bits of small whole numbers. choice.Right, choice.Apply: what they do to a model. choice.Put: the bytes of choices. -/
import Derived.Test.YtgaififhhffpfaaGreatDoorBlk
import Derived.Laws.BitsAllLaws
import Derived.Test.YtgaififhhffpfaaGreatDoorThing
import Derived.Test.YtgaififhhffpfaaGreatDoorRowChs
import Derived.Maps.AppendAt
import Derived.WalkSmall
namespace Go.Proofs.YtgaififhhffpfaaGreatDoor
open Go.RowKit
theorem t1 : (List.range 512).all (fun m => bits .or .i64 (m : Int) 32768 == ((m + 32768 : Nat) : Int)) = true := by decide +kernel
theorem i64_or_nat (a b : Nat) (ha : a < 2 ^ 62) (hb : b < 2 ^ 62) : bits .or .i64 (a : Int) (b : Int) = ((a ||| b : Nat) : Int) := by
  have hx : a ||| b < 2 ^ 62 := Nat.or_lt_two_pow ha hb
  show IntKind.i64.wrap ((BitVec.ofInt 64 (a : Int) ||| BitVec.ofInt 64 (b : Int)).toNat : Int) = _
  rw [BitVec.toNat_or, ofInt_u64 a (by omega), ofInt_u64 b (by omega)]
  rw [IntKind.wrap_i64]
  omega
theorem i64_and_nat (a b : Nat) (ha : a < 2 ^ 62) (hb : b < 2 ^ 62) : bits .and .i64 (a : Int) (b : Int) = ((a &&& b : Nat) : Int) := by
  have hx : a &&& b < 2 ^ 62 := Nat.and_lt_two_pow _ hb
  show IntKind.i64.wrap ((BitVec.ofInt 64 (a : Int) &&& BitVec.ofInt 64 (b : Int)).toNat : Int) = _
  rw [BitVec.toNat_and, ofInt_u64 a (by omega), ofInt_u64 b (by omega)]
  rw [IntKind.wrap_i64]
  omega
theorem i64_andNot_nat (a b : Nat) (ha : a < 2 ^ 62) (hb : b < 2 ^ 62) : bits .andNot .i64 (a : Int) (b : Int) = ((a &&& (18446744073709551615 - b) : Nat) : Int) := by
  have hx : a &&& (18446744073709551615 - b) < 2 ^ 62 := by rw [Nat.and_comm]; exact Nat.and_lt_two_pow _ ha
  show IntKind.i64.wrap ((BitVec.ofInt 64 (a : Int) &&& ~~~BitVec.ofInt 64 (b : Int)).toNat : Int) = _
  rw [BitVec.toNat_and, BitVec.toNat_not, ofInt_u64 a (by omega), ofInt_u64 b (by omega)]
  have e : 2 ^ 64 - 1 - b = 18446744073709551615 - b := by omega
  rw [e]
  rw [IntKind.wrap_i64]
  omega
theorem and15 (x : Nat) (hx : x < 65536) : x &&& 32768 = x / 32768 * 32768 := by
  have := nat_bit 15 x
  rw [show (2 : Nat) ^ 15 = 32768 by decide] at this
  rw [this, Nat.mod_eq_of_lt (by omega)]
theorem andNot15 (x : Nat) (hx : x < 65536) : x &&& (18446744073709551615 - 32768) = x % 32768 := by
  have h : x &&& (18446744073709551615 - 32768) = x &&& 32767 := by
    refine Nat.eq_of_testBit_eq fun i => ?_
    rw [Nat.testBit_and, Nat.testBit_and]
    by_cases hi : i < 16
    · have : (i = 0 ∨ i = 1 ∨ i = 2 ∨ i = 3 ∨ i = 4 ∨ i = 5 ∨ i = 6 ∨ i = 7 ∨ i = 8 ∨ i = 9 ∨ i = 10 ∨ i = 11 ∨ i = 12 ∨ i = 13 ∨ i = 14 ∨ i = 15) := by omega
      rcases this with rfl | rfl | rfl | rfl | rfl | rfl | rfl | rfl | rfl | rfl | rfl | rfl | rfl | rfl | rfl | rfl <;> rfl
    · have : x.testBit i = false := Nat.testBit_lt_two_pow (Nat.lt_of_lt_of_le hx (by have : 2 ^ 16 ≤ 2 ^ i := Nat.pow_le_pow_right (by decide) (by omega); simpa using this))
      rw [this]; rfl
  rw [h]
  exact Nat.and_two_pow_sub_one_eq_mod x 15
end Go.Proofs.YtgaififhhffpfaaGreatDoor

namespace Go.Proofs.YtgaififhhffpfaaGreatDoor
open Go.RowKit Go.Shelf

def okC (c : Bool × Int) : Bool := decide (0 ≤ c.2) && decide (c.2 < 512)
/-- what one choice does: did it something? -/
def apply1 (S : S10) (c : Bool × Int) : Bool × S10 :=
  if okC c then (if c.1 then ((findR S.mem S.root S.l c.2).1, findS S c.2) else ((tget S.l 0 c.2).isSome, dropS S c.2)) else (false, S)
def applyStep (x : Nat × S10) (c : Bool × Int) : Nat × S10 := (if (apply1 x.2 c).1 then x.1 + 1 else x.1, (apply1 x.2 c).2)
def applyN (S : S10) (l : List (Bool × Int)) : Nat × S10 := l.foldl applyStep (0, S)
theorem applyN_take (S : S10) (l : List (Bool × Int)) (k : Nat) (hk : k < l.length) : applyN S (l.take (k + 1)) = applyStep (applyN S (l.take k)) (l.getD k (false, 0)) := by
  unfold applyN
  rw [List.take_add_one, List.getElem?_eq_getElem hk, List.foldl_append]
  simp [List.getD, List.getElem?_eq_getElem hk]
theorem applyN_le (S : S10) (l : List (Bool × Int)) : (applyN S l).1 ≤ l.length := by
  have : ∀ (l : List (Bool × Int)) (x : Nat × S10), (l.foldl applyStep x).1 ≤ x.1 + l.length := by
    intro l
    induction l with
    | nil => intro x; exact Nat.le_refl _
    | cons c l ih =>
      intro x
      have := ih (applyStep x c)
      rw [List.foldl_cons, List.length_cons]
      have h2 : (applyStep x c).1 ≤ x.1 + 1 := by unfold applyStep; dsimp only; split <;> omega
      omega
  have := this l (0, S)
  unfold applyN; simpa using this

theorem cright_any (w : World) (f : Bool) (n : Int) (b : Bool) (hb : okC (f, n) = b) :
    Calls Tryz.prog 102 #[.agg #[.bool f, .int .i64 n]] w fun e w' => e = .returned (.bool b) ∧ Below w.heap.size w w' := by
  unfold okC at hb
  dsimp only at hb
  by_cases h1 : 0 ≤ n
  · by_cases h2 : n < 512
    · rw [decide_eq_true h1, decide_eq_true h2] at hb
      subst hb
      go_enter Tryz.func102, Tryz.ntmps102
      go_wp2
      go_ret
      exact ⟨rfl, (Below.refl _ _).alloc (Nat.le_refl _) _⟩
    · rw [decide_eq_true h1, decide_eq_false h2] at hb
      subst hb
      have h2' : decide (n < 512) = false := decide_eq_false h2
      clear h2
      go_enter Tryz.func102, Tryz.ntmps102
      go_wp2
      go_ret
      exact ⟨rfl, (Below.refl _ _).alloc (Nat.le_refl _) _⟩
  · rw [decide_eq_false h1] at hb
    simp at hb
    subst hb
    have h1' : decide (n ≥ 0) = false := decide_eq_false h1
    clear h1
    go_enter Tryz.func102, Tryz.ntmps102
    go_wp2
    go_ret
    exact ⟨rfl, (Below.refl _ _).alloc (Nat.le_refl _) _⟩
theorem cdoes_any (w : World) (p : Nat) (f : Bool) (n : Int) :
    Calls Tryz.prog 103 #[.pointer (some ⟨p, 0, none⟩), .agg #[.bool f, .int .i64 n]] w
      fun e w' => e = .returned (.func (.func (if f then 32 else 19)) #[.pointer (some ⟨p, 0, none⟩)] #[]) ∧ Below w.heap.size w w' := by
  cases f
  all_goals
    go_enter Tryz.func103, Tryz.ntmps103
    go_wp2
    go_ret
    exact ⟨rfl, (Below.refl _ _).alloc (Nat.le_refl _) _⟩
theorem cons_set (x m m' : Thing) (ts : List Thing) (i : Nat) : ([x] ++ ts.set i m).set ([x].length + i) m' = x :: ts.set i m' := by
  simp [List.set_set, Nat.add_comm]
theorem Chs.at {w : World} {a : Option Addr} {l : List (Bool × Int)} (h : Chs w a l) (k : Nat) (hk : k < l.length) : ∃ b off f n, a = some ⟨b, off, none⟩ ∧ b < w.heap.size ∧ l.getD k (false, 0) = (f, n) ∧
    w.cell? ⟨b, off + k * 2, none⟩ = some (.bool f) ∧ w.cell? ⟨b, off + k * 2 + 1, none⟩ = some (.int .i64 n) := by
  rcases h with h | ⟨b, off, h1, h2, h3⟩
  · rw [h] at hk; simp at hk
  · obtain ⟨c0, c1⟩ := h3 k hk
    exact ⟨b, off, _, _, h1, h2, rfl, c0, c1⟩

set_option maxRecDepth 100000 in
set_option maxHeartbeats 4000000 in
/-- Apply -/
theorem apply_h {w0 w : World} {ts : List Thing} (H : Hold w0 w ts) (i : Nat) {A : MA} {v : Value} {S : S10} (hi : ts[i]? = some (Go.Proofs.YtgaififhhffpfaaGreatDoor.mdl A v S)) (hE : EC w0) (h0 : 1 ≤ w0.heap.size)
    (a : Option Addr) (c : Nat) (l : List (Bool × Int)) (hl : l.length ≤ 9223372036854775807) (hc : ∀ W v' S', Hold w0 W (ts.set i (Go.Proofs.YtgaififhhffpfaaGreatDoor.mdl A v' S')) → Chs W a l) :
    Calls Tryz.prog 46 #[.pointer (some ⟨A.p, 0, none⟩), .slice a l.length c] w fun e w' => e = .returned (.int .i64 ((applyN S l).1 : Int)) ∧ ∃ v', Hold w0 w' (ts.set i (Go.Proofs.YtgaififhhffpfaaGreatDoor.mdl A v' (applyN S l).2)) := by
  obtain ⟨len, hlen⟩ : ∃ n, l.length = n := ⟨_, rfl⟩
  have hil : i < ts.length := (List.getElem?_eq_some_iff.1 hi).1
  have hset : ts.set i (Go.Proofs.YtgaififhhffpfaaGreatDoor.mdl A v S) = ts := by
    obtain ⟨h1, h2⟩ := List.getElem?_eq_some_iff.1 hi
    rw [← h2, List.set_getElem_self]
  have H0 : Hold w0 w (ts.set i (Go.Proofs.YtgaififhhffpfaaGreatDoor.mdl A v S)) := by rw [hset]; exact H
  have hit : ∀ x, (ts.set i x)[i]? = some x := fun x => by rw [List.getElem?_set_self hil]
  have hap := applyN_le S l
  rw [hlen] at hl hap ⊢
  have HL := Lib.hid hlen
  have HC := Lib.hid hc
  have HI := Lib.hid hit
  have HE := Lib.hid hE
  have HH0 := Lib.hid h0
  clear hc hit hset H hi hlen hE h0 hil
  go_enter Tryz.func46, Tryz.ntmps46
  go_wp2_with fail
  go_loopw [5, 11] (fun n j wr => ∃ k : Nat, k ≤ len ∧ j = .int .i64 k ∧ ∃ v', n = .int .i64 ((applyN S (l.take k)).1 : Int) ∧ Hold w0 wr (ts.set i (Go.Proofs.YtgaififhhffpfaaGreatDoor.mdl A v' (applyN S (l.take k)).2))) (fun _ j _ => len - (intOf j).toNat)
  case atStart => exact ⟨0, by omega, rfl, v, rfl, H0⟩
  case round =>
    obtain ⟨k, hk, rfl, v', rfl, H⟩ := hrel
    clear H0
    by_cases hkl : k < len
    · have htk := applyN_take S l k (by rw [HL.out]; exact hkl)
      have hnk := applyN_le S (l.take k)
      have hnl : (l.take k).length = k := by rw [List.length_take, HL.out]; omega
      rw [hnl] at hnk
      obtain ⟨⟨n, S'⟩, hS'⟩ : ∃ x, applyN S (l.take k) = x := ⟨_, rfl⟩
      rw [hS'] at H htk hnk ⊢
      dsimp only at H htk hnk ⊢
      obtain ⟨b, off, f, pg, rfl, hb, hg, c0, c1⟩ := (HC.out _ _ _ H).at k (by rw [HL.out]; exact hkl)
      rw [hg] at htk
      unfold applyStep apply1 at htk
      dsimp only at htk
      have Hn := H.new 79 [.bool f, .int .i64 pg]
      obtain ⟨ok, hok⟩ : ∃ x, okC (f, pg) = x := ⟨_, rfl⟩
      have hcr := fun W => cright_any W f pg ok hok
      have hfi := fun (W : World) (us : List Thing) (G : Hold w0 W (us ++ ts.set i (Go.Proofs.YtgaififhhffpfaaGreatDoor.mdl A v' S'))) => find_h G (us.length + i) (by rw [List.getElem?_append_right (by omega), Nat.add_sub_cancel_left]; exact HI.out _) HE.out HH0.out pg
      have hfo := fun (W : World) (us : List Thing) (G : Hold w0 W (us ++ ts.set i (Go.Proofs.YtgaififhhffpfaaGreatDoor.mdl A v' S'))) => forget_h G (us.length + i) (by rw [List.getElem?_append_right (by omega), Nat.add_sub_cancel_left]; exact HI.out _) pg
      rw [hok] at htk
      have HTk := Lib.hid htk
      have HCr := Lib.hid hcr
      have HFi := Lib.hid hfi
      have HFo := Lib.hid hfo
      have HG := Lib.hid H
      have HN := Lib.hid Hn
      have HNk := Lib.hid hnk
      clear htk hcr hok hg H Hn hfi hfo hS' hnl hap hnk
      cases ok with
      | false =>
        go_wp2_with (first
          | (go_at_call 103; (with_reducible refine (cdoes_any _ A.p f pg).mono ?_); rintro e W1 ⟨rfl, b1⟩; have B1 := HN.out.past b1; have x0 := (B1.box 0 rfl).cell (k := 0) rfl; have x1 := (B1.box 0 rfl).cell (k := 1) rfl; have xl := (B1.box 0 rfl).lt)
          | (go_at_call 102; (with_reducible refine (HCr.out _).mono ?_); rintro e W2 ⟨rfl, b2⟩; have B2 := B1.past b2))
        go_roundw
        case rel => exact ⟨k + 1, by omega, by simp, v', by rw [HTk.out]; simp, by rw [HTk.out]; simpa using (B2.sub (List.sublist_cons_self _ _))⟩
        case measure => simp [intOf]; omega
      | true =>
        cases f with
        | true =>
          obtain ⟨d, hd⟩ : ∃ d, (findR S'.mem S'.root S'.l pg).1 = d := ⟨_, rfl⟩
          have HD := Lib.hid hd
          clear hd
          cases d
          all_goals
            go_wp2_with (first
              | (go_at_call 103; (with_reducible refine (cdoes_any _ A.p true pg).mono ?_); rintro e W1 ⟨rfl, b1⟩; have B1 := HN.out.past b1; have x0 := (B1.box 0 rfl).cell (k := 0) rfl; have x1 := (B1.box 0 rfl).cell (k := 1) rfl; have xl := (B1.box 0 rfl).lt)
              | (go_at_call 102; (with_reducible refine (HCr.out _).mono ?_); rintro e W2 ⟨rfl, b2⟩; have B2 := B1.past b2; have y0 := (B2.box 0 rfl).cell (k := 0) rfl; have y1 := (B2.box 0 rfl).cell (k := 1) rfl; have yl := (B2.box 0 rfl).lt)
              | (go_at_call 32; (with_reducible refine (HFi.out _ [_] B2).mono ?_); rintro e W3 ⟨he, v3, B3⟩; rw [HD.out] at he; subst he))
            go_roundw
            case rel => exact ⟨k + 1, by omega, by simp, v3, by rw [HTk.out]; simp [HD.out] <;> (unfold wrap64; have := HNk.out; omega), by rw [HTk.out]; rw [cons_set] at B3; exact B3.sub (List.sublist_cons_self _ _)⟩
            case measure => simp [intOf]; omega
        | false =>
          obtain ⟨d, hd⟩ : ∃ d, (tget S'.l 0 pg).isSome = d := ⟨_, rfl⟩
          have HD := Lib.hid hd
          clear hd
          cases d
          all_goals
            go_wp2_with (first
              | (go_at_call 103; (with_reducible refine (cdoes_any _ A.p false pg).mono ?_); rintro e W1 ⟨rfl, b1⟩; have B1 := HN.out.past b1; have x0 := (B1.box 0 rfl).cell (k := 0) rfl; have x1 := (B1.box 0 rfl).cell (k := 1) rfl; have xl := (B1.box 0 rfl).lt)
              | (go_at_call 102; (with_reducible refine (HCr.out _).mono ?_); rintro e W2 ⟨rfl, b2⟩; have B2 := B1.past b2; have y0 := (B2.box 0 rfl).cell (k := 0) rfl; have y1 := (B2.box 0 rfl).cell (k := 1) rfl; have yl := (B2.box 0 rfl).lt)
              | (go_at_call 19; (with_reducible refine (HFo.out _ [_] B2).mono ?_); rintro e W3 ⟨he, v3, B3⟩; rw [HD.out] at he; subst he))
            go_roundw
            case rel => exact ⟨k + 1, by omega, by simp, v3, by rw [HTk.out]; simp [HD.out] <;> (unfold wrap64; have := HNk.out; omega), by rw [HTk.out]; rw [cons_set] at B3; exact B3.sub (List.sublist_cons_self _ _)⟩
            case measure => simp [intOf]; omega
    · obtain rfl : k = len := by omega
      have HG := Lib.hid H
      clear H hkl hk
      rw [show l.take k = l from by rw [← HL.out, List.take_length]] at HG ⊢
      go_wp2
      go_ret
      exact ⟨rfl, v', HG.out⟩
end Go.Proofs.YtgaififhhffpfaaGreatDoor

namespace Go.Proofs.YtgaififhhffpfaaGreatDoor
open Go.RowKit Go.Shelf

def u8v (n : Nat) : Value := .int .u8 (n : Int)
/-- bytes in a slice that is one's own, or nil -/
def BRow (w : World) (B : Nat) (v : Value) (bs : List Nat) : Prop := w.ownsRow B 5 1 v bs.length (bs.map u8v)
def two (c : Bool × Int) : List Nat := [c.2.toNat / 256 + (if c.1 then 128 else 0), c.2.toNat % 256]
def putC (l : List (Bool × Int)) : List Nat := if l.all okC then l.flatMap two else []
theorem info_u8 : (Tryz.prog.info? 5).map (fun i => (i.zero, i.size, i.bytes)) = some (some (.int .u8 0), 1, 1) := by kernel_rfl
theorem two_len (l : List (Bool × Int)) : (l.flatMap two).length = 2 * l.length := by
  induction l with
  | nil => rfl
  | cons c l ih => rw [List.flatMap_cons, List.length_append, ih, List.length_cons]; simp [two]; omega
theorem row_past {w w' : World} {base : Nat} {e : TypeId} {size : Nat} {v : Value} {n : Nat} {xs : List Value} (h : w.ownsRow base e size v n xs) (hb : Below w.heap.size w w') : w'.ownsRow base e size v n xs :=
  h.kept (grownBy_of_below hb) (by cases v.ownBlock <;> simp)
set_option maxRecDepth 100000 in
set_option maxHeartbeats 4000000 in
theorem cput_any (w : World) (a : Option Addr) (c : Nat) (l : List (Bool × Int)) (hc : Chs w a l) (hl : l.length ≤ 1000000) :
    Calls Tryz.prog 50 #[.slice a l.length c] w fun e w' => (∃ v, e = .returned v ∧ BRow w' w.heap.size v (putC l)) ∧ Below w.heap.size w w' := by
  obtain ⟨len, hlen⟩ : ∃ n, l.length = n := ⟨_, rfl⟩
  obtain ⟨i0, hi, hz0, hz1, hz2⟩ := info_parts info_u8
  rw [hlen] at hl ⊢
  have HL := Lib.hid hlen
  have HC := Lib.hid hc
  have H1 := Lib.hid hi
  have HZ0 := Lib.hid hz0
  have HZ1 := Lib.hid hz1
  have HZ2 := Lib.hid hz2
  clear hlen hc hi hz0 hz1 hz2
  go_enter Tryz.func50, Tryz.ntmps50
  go_wp2_with fail
  go_loopw [3, 9] (fun v j wr => ∃ k : Nat, k ≤ len ∧ j = .int .i64 k ∧ (l.take k).all okC = true ∧ wr.ownsRow w.heap.size 5 1 v (2 * k) (((l.take k).flatMap two).map u8v) ∧ Below w.heap.size w wr) (fun _ j _ => len - (intOf j).toNat)
  case atStart => exact ⟨0, by omega, rfl, rfl, World.ownsRow_nil _ _ _ _, Below.refl _ _⟩
  case round =>
    obtain ⟨k, hk, rfl, hall, hown, hB⟩ := hrel
    by_cases hkl : k < len
    · have htake : l.take (k + 1) = l.take k ++ [l.getD k (false, 0)] := by
        have : k < l.length := by rw [HL.out]; exact hkl
        rw [List.take_add_one, List.getElem?_eq_getElem this]; simp [List.getD, List.getElem?_eq_getElem this]
      obtain ⟨b, off, f, pg, rfl, hb, hg, C0, C1⟩ := HC.out.at k (by rw [HL.out]; exact hkl)
      have c0 := (hB.cell (p := ⟨b, _, none⟩) hb).trans C0
      have c1 := (hB.cell (p := ⟨b, _, none⟩) hb).trans C1
      rw [hg] at htake
      obtain ⟨ok, hok⟩ : ∃ x, okC (f, pg) = x := ⟨_, rfl⟩
      have hcr := fun W => cright_any W f pg ok hok
      have Xn := Blk.new wr 79 [.bool f, .int .i64 pg]
      have hsz := hB.size
      have HCr := Lib.hid hcr
      have HA := Lib.hid hall
      have HO := Lib.hid hown
      have HX := Lib.hid Xn
      have HT := Lib.hid htake
      have HBB := Lib.hid hB
      clear hcr hall hown Xn htake C0 C1 hg hB
      cases ok with
      | false =>
        have hno : l.all okC = false := by
          rw [List.all_eq_false]
          have : (f, pg) ∈ l.take (k + 1) := by rw [HT.out]; simp
          exact ⟨_, List.mem_of_mem_take this, by rw [hok]; simp⟩
        have HN := Lib.hid hno
        clear hno hok
        go_wp2_with (first
          | (go_at_call 102; (with_reducible refine (HCr.out _).mono ?_); rintro e W2 ⟨rfl, b2⟩; have B2 := HBB.out.trans (((Below.refl _ wr).alloc (Nat.le_refl _) (.cells #[.bool f, .int .i64 pg] 79) |>.trans (b2.mono (by simp))).mono hsz)))
        go_ret
        refine ⟨⟨_, rfl, ?_⟩, B2⟩
        unfold putC BRow
        rw [HN.out]
        exact World.ownsRow_nil _ _ _ _
      | true =>
        have hbd : 0 ≤ pg ∧ pg < 512 := by unfold okC at hok; simpa using hok
        have HK := Lib.hid hok
        clear hok
        obtain ⟨m, rfl⟩ : ∃ m : Nat, pg = (m : Int) := ⟨pg.toNat, by omega⟩
        have hm : m < 512 := by omega
        clear hbd
        cases f with
        | true =>
          have hor : bits .or .i64 (m : Int) 32768 = (m : Int) + 32768 := by
            have := List.all_eq_true.1 t1 m (List.mem_range.2 hm)
            rw [beq_iff_eq] at this
            rw [this]; omega
          go_wp2_with (first
            | (go_at_call 102; (with_reducible refine (HCr.out _).mono ?_); rintro e W2 ⟨rfl, b2⟩; have X2 := HX.out.past b2; have x0 := X2.cell (k := 0) rfl; have x1 := X2.cell (k := 1) rfl; have xl := X2.lt; have B2 := HBB.out.trans (((Below.refl _ wr).alloc (Nat.le_refl _) (.cells #[.bool true, .int .i64 (m : Int)] 79) |>.trans (b2.mono (by simp))).mono hsz); have O2 := row_past (row_past HO.out ((Below.refl _ wr).alloc (Nat.le_refl _) (.cells #[.bool true, .int .i64 (m : Int)] 79))) b2)
            | (at_builtin; refine wpList_append_own _ rfl _ _ 83 rfl w.heap.size 5 i0 _ 1 1 Tryz.underlying83 H1.out HZ0.out HZ1.out HZ2.out rfl (by decide) _ _ _ rfl (O2.alloc _) ⟨W2.heap.size, 0, none⟩ 2 2 [.int .u8 (((m : Int) + 32768) / 256), .int .u8 (((m : Int) + 32768) % 256)] rfl rfl (cell_two_new _ _ _ _) (fun x hx => by simp at hx; rcases hx with rfl | rfl <;> rfl) (by unfold maxLen; omega) (by omega) (by simp; omega) ?_; intro v' w3 hown' hgrow3 hnil3; have HO3 := Lib.hid hown'; have HG3 := Lib.hid hgrow3; clear hown' hgrow3 hnil3))
          go_roundw
          case rel =>
            refine ⟨k + 1, by omega, by simp, ?_, ?_, (B2.alloc (Nat.le_trans B2.size (Nat.le_refl _)) _).grown HG3.out (by have := B2.size; simp; omega) (fun r e => ?_)⟩
            · rw [HT.out, List.all_append, HA.out]; simp [HK.out]
            · have := HO3.out
              rw [HT.out, List.flatMap_append, List.map_append]
              rw [show 2 * (k + 1) = 2 * k + 2 by omega]
              have e : ([(true, (m : Int))].flatMap two).map u8v = [.int .u8 (((m : Int) + 32768) / 256), .int .u8 (((m : Int) + 32768) % 256)] := by
                show [Value.int .u8 ((((m : Int).toNat / 256 + 128 : Nat)) : Int), Value.int .u8 (((m : Int).toNat % 256 : Nat) : Int)] = _
                rw [show (((m : Int).toNat / 256 + 128 : Nat) : Int) = ((m : Int) + 32768) / 256 by omega, show (((m : Int).toNat % 256 : Nat) : Int) = ((m : Int) + 32768) % 256 by omega]
              rw [e]
              exact this
            · exact ((O2.alloc (.cells #[.int .u8 (((m : Int) + 32768) / 256), .int .u8 (((m : Int) + 32768) % 256)] 5)).lt r e).1
          case measure => simp [intOf]; omega
        | false =>
          go_wp2_with (first
            | (go_at_call 102; (with_reducible refine (HCr.out _).mono ?_); rintro e W2 ⟨rfl, b2⟩; have X2 := HX.out.past b2; have x0 := X2.cell (k := 0) rfl; have x1 := X2.cell (k := 1) rfl; have xl := X2.lt; have B2 := HBB.out.trans (((Below.refl _ wr).alloc (Nat.le_refl _) (.cells #[.bool false, .int .i64 (m : Int)] 79) |>.trans (b2.mono (by simp))).mono hsz); have O2 := row_past (row_past HO.out ((Below.refl _ wr).alloc (Nat.le_refl _) (.cells #[.bool false, .int .i64 (m : Int)] 79))) b2)
            | (at_builtin; refine wpList_append_own _ rfl _ _ 83 rfl w.heap.size 5 i0 _ 1 1 Tryz.underlying83 H1.out HZ0.out HZ1.out HZ2.out rfl (by decide) _ _ _ rfl (O2.alloc _) ⟨W2.heap.size, 0, none⟩ 2 2 [.int .u8 ((m : Int) / 256), .int .u8 ((m : Int) % 256)] rfl rfl (cell_two_new _ _ _ _) (fun x hx => by simp at hx; rcases hx with rfl | rfl <;> rfl) (by unfold maxLen; omega) (by omega) (by simp; omega) ?_; intro v' w3 hown' hgrow3 hnil3; have HO3 := Lib.hid hown'; have HG3 := Lib.hid hgrow3; clear hown' hgrow3 hnil3))
          go_roundw
          case rel =>
            refine ⟨k + 1, by omega, by simp, ?_, ?_, (B2.alloc (Nat.le_trans B2.size (Nat.le_refl _)) _).grown HG3.out (by have := B2.size; simp; omega) (fun r e => ?_)⟩
            · rw [HT.out, List.all_append, HA.out]; simp [HK.out]
            · have := HO3.out
              rw [HT.out, List.flatMap_append, List.map_append]
              rw [show 2 * (k + 1) = 2 * k + 2 by omega]
              have e : ([(false, (m : Int))].flatMap two).map u8v = [.int .u8 ((m : Int) / 256), .int .u8 ((m : Int) % 256)] := by
                show [Value.int .u8 ((((m : Int).toNat / 256 + 0 : Nat)) : Int), Value.int .u8 (((m : Int).toNat % 256 : Nat) : Int)] = _
                rw [show (((m : Int).toNat / 256 + 0 : Nat) : Int) = (m : Int) / 256 by omega, show (((m : Int).toNat % 256 : Nat) : Int) = (m : Int) % 256 by omega]
              rw [e]
              exact this
            · exact ((O2.alloc (.cells #[.int .u8 ((m : Int) / 256), .int .u8 ((m : Int) % 256)] 5)).lt r e).1
          case measure => simp [intOf]; omega
    · obtain rfl : k = len := by omega
      have hall' : l.all okC = true := by rw [← hall]; congr 1; rw [← HL.out, List.take_length]
      have hO := Lib.hid hown
      have HA := Lib.hid hall'
      clear hkl hk hall hall' hown
      go_wp2
      go_ret
      refine ⟨⟨_, rfl, ?_⟩, hB⟩
      unfold putC BRow
      rw [HA.out, if_pos rfl, two_len, HL.out]
      have := hO.out
      rw [show l.take k = l from by rw [← HL.out, List.take_length]] at this
      exact this
end Go.Proofs.YtgaififhhffpfaaGreatDoor
