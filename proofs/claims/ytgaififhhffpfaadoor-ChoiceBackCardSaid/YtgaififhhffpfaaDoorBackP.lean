/- Choices and their bytes, in plain Lean. -/
import Derived.Test.YtgaififhhffpfaaDoorChGet
namespace Go.Proofs.YtgaififhhffpfaaDoor
open Go.RowKit Go.Shelf

theorem pair_cons (x y : Nat) (r : List Nat) (j : Nat) : pairC (x :: y :: r) (j + 1) = pairC r j := by
  unfold pairC
  have e1 : (2 * (j + 1) + 2 ≤ (x :: y :: r).length) ↔ (2 * j + 2 ≤ r.length) := by simp only [List.length_cons]; omega
  have e2 : (x :: y :: r).getD (2 * (j + 1)) 0 = r.getD (2 * j) 0 := by rw [show 2 * (j + 1) = 2 * j + 1 + 1 by omega]; rfl
  have e3 : (x :: y :: r).getD (2 * (j + 1) + 1) 0 = r.getD (2 * j + 1) 0 := by rw [show 2 * (j + 1) + 1 = 2 * j + 1 + 1 + 1 by omega]; rfl
  simp only [e1, e2, e3]
theorem range_map_succ (m : Nat) : List.range (m + 1) = 0 :: (List.range m).map (· + 1) := List.range_succ_eq_map
theorem getC_cons (x y : Nat) (r : List Nat) : getC (x :: y :: r) = match pairC [x, y] 0 with | none => ([], 12) | some c => if (getC r).2 = 0 then (c :: (getC r).1, 0) else ([], 12) := by
  have hm : ((x :: y :: r).length + 1) / 2 = (r.length + 1) / 2 + 1 := by simp only [List.length_cons]; omega
  have h0 : pairC (x :: y :: r) 0 = pairC [x, y] 0 := by
    unfold pairC
    have e1 : (2 * 0 + 2 ≤ (x :: y :: r).length) := by simp only [List.length_cons]; omega
    have e2 : (2 * 0 + 2 ≤ [x, y].length) := by simp
    rw [if_pos e1, if_pos e2]; rfl
  unfold getC
  rw [hm, range_map_succ]
  simp only [List.all_cons, List.all_map, List.filterMap_cons, List.filterMap_map, h0]
  have e1 : ((fun j => (pairC (x :: y :: r) j).isSome) ∘ fun x => x + 1) = fun j => (pairC r j).isSome := funext fun j => by simp only [Function.comp_apply, pair_cons]
  have e2 : (pairC (x :: y :: r) ∘ fun x => x + 1) = pairC r := funext fun j => by simp only [Function.comp_apply, pair_cons]
  rw [e1, e2]
  cases hp : pairC [x, y] 0 with
  | none => simp
  | some c =>
    simp only [Option.isSome_some, Bool.true_and]
    by_cases hr : (List.range ((r.length + 1) / 2)).all (fun j => (pairC r j).isSome) = true
    · rw [if_pos hr, if_pos hr]; simp
    · rw [if_neg hr, if_neg hr]; simp
theorem getC_nil : getC [] = ([], 0) := rfl
theorem getC_one (x : Nat) : getC [x] = ([], 12) := by
  unfold getC
  rw [if_neg]
  simp [List.range_succ, pairC]
theorem pair_two (c : Bool × Int) (h : okC c = true) : pairC [(two c).getD 0 0, (two c).getD 1 0] 0 = some c := by
  obtain ⟨f, p⟩ := c
  unfold okC at h
  simp only [Bool.and_eq_true, decide_eq_true_iff] at h
  obtain ⟨n, rfl⟩ : ∃ n : Nat, p = (n : Int) := ⟨p.toNat, by omega⟩
  have hn : n < 512 := by omega
  unfold pairC two
  rw [if_pos (by simp)]
  cases f
  · simp only [Int.toNat_natCast, List.getD_cons_zero, List.getD_cons_succ, Bool.false_eq_true, if_false, Nat.mul_zero, Nat.zero_add]
    have e : 256 * (n / 256 + 0) + n % 256 = n := by omega
    rw [e, if_pos (by omega), decide_eq_false (by omega), Nat.mod_eq_of_lt (by omega)]
  · simp only [Int.toNat_natCast, List.getD_cons_zero, List.getD_cons_succ, if_true, Nat.mul_zero, Nat.zero_add]
    have e : 256 * (n / 256 + 128) + n % 256 = n + 32768 := by omega
    rw [e, if_pos (by omega), decide_eq_true (by omega), show (n + 32768) % 32768 = n by omega]
theorem get_put : ∀ (l : List (Bool × Int)), l.all okC = true → getC (l.flatMap two) = (l, 0)
  | [], _ => rfl
  | c :: l, h => by
    rw [List.all_cons, Bool.and_eq_true] at h
    have e : (c :: l).flatMap two = (two c).getD 0 0 :: (two c).getD 1 0 :: l.flatMap two := rfl
    rw [e, getC_cons, pair_two c h.1, get_put l h.2]
    simp
theorem get_putC {l : List (Bool × Int)} (h : l.all okC = true) : getC (putC l) = (l, 0) := by
  unfold putC; rw [if_pos h]; exact get_put l h
theorem pair_ok {x y : Nat} (hx : x < 256) (hy : y < 256) {c : Bool × Int} (h : pairC [x, y] 0 = some c) : okC c = true ∧ two c = [x, y] := by
  unfold pairC at h
  rw [if_pos (by simp)] at h
  simp only [Nat.mul_zero, Nat.zero_add, List.getD_cons_zero, List.getD_cons_succ] at h
  split at h
  · rename_i hlt
    injection h with h
    subst h
    refine ⟨?_, ?_⟩
    · unfold okC; simp only [Bool.and_eq_true, decide_eq_true_iff]; omega
    · unfold two
      dsimp only
      rw [Int.toNat_natCast]
      by_cases hq : 32768 ≤ 256 * x + y
      · rw [decide_eq_true hq, if_pos rfl]
        congr 1
        · omega
        · congr 1; omega
      · rw [decide_eq_false hq, if_neg (by simp)]
        congr 1
        · omega
        · congr 1; omega
  · cases h
theorem put_get : ∀ (b : List Nat), (∀ x, x ∈ b → x < 256) → (getC b).2 = 0 → (getC b).1.all okC = true ∧ (getC b).1.flatMap two = b
  | [], _, _ => ⟨rfl, rfl⟩
  | [x], _, h => by rw [getC_one] at h; cases h
  | x :: y :: r, hb, h => by
    rw [getC_cons] at h ⊢
    cases hp : pairC [x, y] 0 with
    | none => rw [hp] at h; cases h
    | some c =>
      rw [hp] at h
      dsimp only at h ⊢
      by_cases h0 : (getC r).2 = 0
      · rw [if_pos h0]
        obtain ⟨i1, i2⟩ := put_get r (fun z hz => hb z (List.mem_cons_of_mem _ (List.mem_cons_of_mem _ hz))) h0
        obtain ⟨o1, o2⟩ := pair_ok (hb x List.mem_cons_self) (hb y (List.mem_cons_of_mem _ List.mem_cons_self)) hp
        dsimp only
        rw [List.all_cons, o1, i1, List.flatMap_cons, o2, i2]
        exact ⟨rfl, rfl⟩
      · rw [if_neg h0] at h; cases h
theorem putC_get {b : List Nat} (hb : ∀ x, x ∈ b → x < 256) (h : (getC b).2 = 0) : putC (getC b).1 = b := by
  obtain ⟨h1, h2⟩ := put_get b hb h
  unfold putC; rw [if_pos h1]; exact h2
theorem getC_err {b : List Nat} (h : (getC b).2 ≠ 0) : getC b = ([], 12) := by
  unfold getC at h ⊢
  split
  · rename_i hh; rw [if_pos hh] at h; exact absurd rfl h
  · rfl
theorem getC_two (b : List Nat) : (getC b).2 = 0 ∨ getC b = ([], 12) := by
  by_cases h : (getC b).2 = 0
  · exact .inl h
  · exact .inr (getC_err h)
theorem getC_len (b : List Nat) : (getC b).1.length ≤ b.length := by
  unfold getC
  split
  · refine Nat.le_trans (List.length_filterMap_le _ _) ?_
    rw [List.length_range]; omega
  · exact Nat.zero_le _
theorem putC_len (l : List (Bool × Int)) : (putC l).length = if l.all okC then 2 * l.length else 0 := by
  unfold putC
  split
  · exact two_len l
  · rfl
theorem Bys.bd {w : World} {a : Option Addr} {l : List Nat} (h : Bys w a l) : ∀ x, x ∈ l → x < 256 := by
  intro x hx
  rcases h with h | ⟨b, off, _, _, h3⟩
  · subst h; cases hx
  · obtain ⟨j, hj, e⟩ := List.getElem_of_mem hx
    have := (h3 j hj).1
    rw [List.getD, List.getElem?_eq_getElem hj] at this
    simp at this; omega
end Go.Proofs.YtgaififhhffpfaaDoor
