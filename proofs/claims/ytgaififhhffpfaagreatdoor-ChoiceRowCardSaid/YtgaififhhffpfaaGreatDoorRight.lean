/- What may be done, and the place of a page in a table. -/
import Derived.Test.YtgaififhhffpfaaGreatDoorPte
namespace Go.Proofs.YtgaififhhffpfaaGreatDoor
open Go.RowKit

theorem i64_mask (n : Int) (k : Nat) (hk : k < 63) : bits .and .i64 n (((2 ^ k - 1 : Nat) : Int)) = n % ((2 ^ k : Nat) : Int) := by
  have hlt : 2 ^ k < 2 ^ 63 := Nat.pow_lt_pow_right (by decide) hk
  have hpos : 0 < 2 ^ k := Nat.pow_pos (by decide)
  have hm : (BitVec.ofInt 64 ((2 ^ k - 1 : Nat) : Int)).toNat = 2 ^ k - 1 := by
    rw [BitVec.toNat_ofInt]; omega
  have key : (BitVec.ofInt 64 n &&& BitVec.ofInt 64 ((2 ^ k - 1 : Nat) : Int)).toNat = (n % ((2 ^ 64 : Nat) : Int)).toNat % 2 ^ k := by
    rw [BitVec.toNat_and, BitVec.toNat_ofInt, hm, Nat.and_two_pow_sub_one_eq_mod]
  show IntKind.i64.wrap ((BitVec.ofInt 64 n &&& BitVec.ofInt 64 ((2 ^ k - 1 : Nat) : Int)).toNat : Nat) = _
  have hdvd : ((2 ^ k : Nat) : Int) ∣ ((2 ^ 64 : Nat) : Int) := Int.natCast_dvd_natCast.2 (Nat.pow_dvd_pow 2 (by omega))
  have e : (((n % ((2 ^ 64 : Nat) : Int)).toNat % 2 ^ k : Nat) : Int) = n % ((2 ^ k : Nat) : Int) := by
    rw [Int.natCast_emod, Int.toNat_of_nonneg (Int.emod_nonneg _ (by decide)), Int.emod_emod_of_dvd _ hdvd]
  have h1 : n % ((2 ^ k : Nat) : Int) < ((2 ^ k : Nat) : Int) := Int.emod_lt_of_pos _ (by omega)
  have h0 : 0 ≤ n % ((2 ^ k : Nat) : Int) := Int.emod_nonneg _ (by omega)
  rw [key, e, IntKind.wrap_i64]
  omega

theorem cut_any (n a : Int) (w : World) (ha : 0 ≤ a) (ha2 : a < 63) :
    Calls Tryz.prog 149 #[.int .i64 n, .int .i64 a, .int .i64 3] w fun e w' => e = .returned (.int .i64 (n / 2 ^ a.toNat % 8)) ∧ ∃ q, w' = w.drewN q := by
  go_enter Tryz.func149, Tryz.ntmps149
  go_wp2
  go_quiet (fail)
  go_wp2
  go_ret
  refine ⟨?_, _, rfl⟩
  have := i64_mask (n / 2 ^ a.toNat) 3 (by omega)
  exact congrArg (fun z => Ending.returned (Value.int .i64 z)) this

/-- the place of a page in its table of a level -/
def ix (page l : Int) : Int := if 1 ≤ l ∧ l ≤ 3 then page / 2 ^ ((l - 1) * 3).toNat % 8 else 0
theorem ix_bd (page l : Int) : 0 ≤ ix page l ∧ ix page l < 8 := by unfold ix; split <;> omega

theorem idx_any (n l : Int) (w : World) :
    Calls Tryz.prog 116 #[.int .i64 n, .int .i64 l] w fun e w' => e = .returned (.int .i64 (ix n l)) ∧ ∃ q, w' = w.drewN q := by
  unfold ix
  by_cases h : 1 ≤ l ∧ l ≤ 3
  · rw [if_pos h]
    obtain ⟨h1, h3⟩ := h
    have g1 : ¬ l < 1 := by omega
    have g3 : ¬ 3 < l := by omega
    go_enter Tryz.func116, Tryz.ntmps116
    go_wp2_with (go_at_call 149; refine (cut_any _ _ _ (by omega) (by omega)).mono ?_; rintro e w' ⟨rfl, q, rfl⟩)
    go_ret
    exact ⟨rfl, _, rfl⟩
  · rw [if_neg h]
    by_cases h1 : l < 1
    · go_enter Tryz.func116, Tryz.ntmps116
      go_wp2
      go_ret
      exact ⟨rfl, 0, rfl⟩
    · have g3 : 3 < l := by omega
      go_enter Tryz.func116, Tryz.ntmps116
      go_wp2
      go_ret
      exact ⟨rfl, 0, rfl⟩

theorem idx_bel (n l : Int) (w : World) :
    Calls Tryz.prog 116 #[.int .i64 n, .int .i64 l] w fun e w' => e = .returned (.int .i64 (ix n l)) ∧ Below w.heap.size w w' :=
  (idx_any n l w).mono fun _ _ ⟨h, q, e⟩ => ⟨h, e ▸ below_of_drewN w q⟩

/-- What may be done. -/
structure Rt where
  w : Bool
  u : Bool
  x : Bool
  deriving DecidableEq
def Rt.val (r : Rt) : Array Value := #[.bool r.w, .bool r.u, .bool r.x]
def Rt.all : Rt := ⟨true, true, true⟩
def Rt.meet (a b : Rt) : Rt := ⟨a.w && b.w, a.u && b.u, a.x && b.x⟩
def rtOf (e : Pte) : Rt := ⟨e.w, e.u, !e.nx⟩
def may (r : Rt) (kind : Int) (user : Bool) : Bool := (r.u || !user) && (if kind = 1 then r.w else if kind = 2 then r.x else decide (kind = 0))
def fcode (kind : Int) (user there bad : Bool) : Int := (if there then 1 else 0) + (if kind = 1 then 2 else 0) + (if user then 4 else 0) + (if there && bad then 8 else 0) + (if kind = 2 then 16 else 0)

theorem code_any (kind : Int) (user there bad : Bool) (w : World) :
    Calls Tryz.prog 111 #[.int .i64 kind, .bool user, .bool there, .bool bad] w fun e w' => e = .returned (.int .i64 (fcode kind user there bad)) ∧ w = w' := by
  by_cases h1 : kind = 1
  · subst h1
    cases user <;> cases there <;> cases bad <;>
    · go_enter Tryz.func111, Tryz.ntmps111
      go_wp2
      go_ret
      exact ⟨rfl, rfl⟩
  · by_cases h2 : kind = 2
    · subst h2
      cases user <;> cases there <;> cases bad <;>
      · go_enter Tryz.func111, Tryz.ntmps111
        go_wp2
        go_ret
        exact ⟨rfl, rfl⟩
    · have e1 : (kind == 1) = false := by simp [h1]
      have e2 : (kind == 2) = false := by simp [h2]
      cases user <;> cases there <;> cases bad <;>
      · go_enter Tryz.func111, Tryz.ntmps111
        go_wp2
        go_ret
        refine ⟨?_, rfl⟩
        simp only [fcode, if_neg h1, if_neg h2]
        rfl

theorem of_any (w : World) (e : Pte) :
    Calls Tryz.prog 115 #[.agg e.val] w fun r w' => r = .returned (.agg (rtOf e).val) ∧ Below w.heap.size w w' := by
  unfold Pte.val
  go_enter Tryz.func115, Tryz.ntmps115
  go_wp2
  refine bodyPost_ret (v := .agg #[.bool e.w, .bool e.u, .bool (!e.nx)]) (by simp [results, Tryz.results115, go_sem]) rfl ⟨rfl, ?_⟩
  go_grown

theorem may_any (w : World) (r : Rt) (kind : Int) (user : Bool) :
    Calls Tryz.prog 117 #[.agg r.val, .int .i64 kind, .bool user] w fun e w' => e = .returned (.bool (may r kind user)) ∧ Below w.heap.size w w' := by
  unfold Rt.val
  obtain ⟨rw', ru, rx⟩ := r
  by_cases h1 : kind = 1
  · subst h1
    cases user <;> cases ru <;> cases rw' <;>
    · go_enter Tryz.func117, Tryz.ntmps117
      go_wp2
      go_ret
      exact ⟨rfl, (Below.refl _ _).alloc (Nat.le_refl _) _⟩
  · by_cases h2 : kind = 2
    · subst h2
      cases user <;> cases ru <;> cases rx <;>
      · go_enter Tryz.func117, Tryz.ntmps117
        go_wp2
        go_ret
        exact ⟨rfl, (Below.refl _ _).alloc (Nat.le_refl _) _⟩
    · have e1 : (kind == 1) = false := by simp [h1]
      have e2 : (kind == 2) = false := by simp [h2]
      by_cases h0 : kind = 0
      · subst h0
        cases user <;> cases ru <;>
        · go_enter Tryz.func117, Tryz.ntmps117
          go_wp2
          go_ret
          exact ⟨rfl, (Below.refl _ _).alloc (Nat.le_refl _) _⟩
      · have e0 : (kind == 0) = false := by simp [h0]
        cases user <;> cases ru <;>
        · go_enter Tryz.func117, Tryz.ntmps117
          go_wp2
          go_ret
          refine ⟨?_, (Below.refl _ _).alloc (Nat.le_refl _) _⟩
          simp only [may, if_neg h1, if_neg h2, h0]
          rfl
end Go.Proofs.YtgaififhhffpfaaGreatDoor
