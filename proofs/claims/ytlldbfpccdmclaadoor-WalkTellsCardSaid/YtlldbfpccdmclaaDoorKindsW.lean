/- The law WalkKinds: the walk, at every input. -/
import Derived.Test.YtlldbfpccdmclaaDoorKinds
namespace Go.Proofs.YtlldbfpccdmclaaDoor
open Go.RowKit

theorem u16_bd {v : Int} (h : (Lit.int .u16 v).wf = true) : ∃ n : Nat, v = (n : Int) ∧ n < 65536 := by
  simp [Lit.wf, IntKind.min, IntKind.max, IntKind.signed, IntKind.bits] at h
  exact ⟨v.toNat, by omega, by omega⟩
theorem u8_bd {v : Int} (h : (Lit.int .u8 v).wf = true) : ∃ n : Nat, v = (n : Int) ∧ n < 256 := by
  simp [Lit.wf, IntKind.min, IntKind.max, IntKind.signed, IntKind.bits] at h
  exact ⟨v.toNat, by omega, by omega⟩
theorem may_sys (r : Rt) : may r 0 false = true := by unfold may; simp
theorem may_user {r : Rt} {k : Int} (h : may r k true = true) : may r k false = true := by
  unfold may at *
  simp at h ⊢
  exact h.2
theorem fcode_even (k : Int) (u b : Bool) : bits .and .i64 (fcode k u false b) 1 = 0 := by
  have h := i64_mask (fcode k u false b) 1 (by omega)
  have e : fcode k u false b % 2 = 0 := by
    unfold fcode
    cases u <;> cases b <;> by_cases h1 : k = 1 <;> by_cases h2 : k = 2 <;> simp [h1, h2] <;> omega
  exact h.trans e
theorem fcode_odd (k : Int) (u b : Bool) : bits .and .i64 (fcode k u true b) 1 = 1 := by
  have h := i64_mask (fcode k u true b) 1 (by omega)
  have e : fcode k u true b % 2 = 1 := by
    unfold fcode
    cases u <;> cases b <;> by_cases h1 : k = 1 <;> by_cases h2 : k = 2 <;> simp [h1, h2] <;> omega
  exact h.trans e

theorem kinds_walk (w : World) (hg : EC w) (a : Option Addr) (c : Nat) (l : List (Int × Int × Nat)) (hp : Ps w a l) (hlen : l.length ≤ 9223372036854775807) (root page : Int) (hpage : (Lit.int .u16 page).wf = true) (kind : Int) (hkind : (Lit.int .u8 kind).wf = true) :
    Calls Tryd.prog 4 #[.slice a l.length c, .int .i64 root, .int .u16 page, .int .u8 kind] w fun e w' => e = .returned (.bool true) ∧ Below w.heap.size w w' := by
  obtain ⟨page, rfl, hpg⟩ := u16_bd hpage
  obtain ⟨kind, rfl, hkd⟩ := u8_bd hkind
  rcases wk_forms (rd h16 (puts l)) h16.length root ((page % 512 : Nat) : Int) with h | h | h | ⟨_, h⟩
  · exact kinds_A w hg a c l hp hlen root page kind hpg hkd (h _ _) (h _ _) (h _ _)
  · exact kinds_B w hg a c l hp hlen root page kind hpg hkd _ _ _ (h _ _) (h _ _) (h _ _) (fcode_even _ _ _) (fcode_even _ _ _) (fcode_even _ _ _)
  · exact kinds_C w hg a c l hp hlen root page kind hpg hkd _ _ _ (h _ _) (h _ _) (h _ _) (fcode_odd _ _ _)
  · have h3 := h 0 false
    rw [may_sys, if_neg (by decide)] at h3
    have h1 := h ((kind % 3 : Nat) : Int) true
    have h2 := h ((kind % 3 : Nat) : Int) false
    by_cases hb : ((h16.length : Nat) : Int) ≤ (endP ((page % 512 : Nat) : Int) (foldP (stepsFrom (rd h16 (puts l)) ((page % 512 : Nat) : Int) cd0 3 root))).g
    · rw [if_pos hb] at h1 h2 h3
      by_cases m2 : may (foldP (stepsFrom (rd h16 (puts l)) ((page % 512 : Nat) : Int) cd0 3 root)).r ((kind % 3 : Nat) : Int) false = false
      · rw [if_pos m2] at h2
        have m1 : may (foldP (stepsFrom (rd h16 (puts l)) ((page % 512 : Nat) : Int) cd0 3 root)).r ((kind % 3 : Nat) : Int) true = false := by
          cases hm : may (foldP (stepsFrom (rd h16 (puts l)) ((page % 512 : Nat) : Int) cd0 3 root)).r ((kind % 3 : Nat) : Int) true with
          | false => rfl
          | true => rw [may_user hm] at m2; cases m2
        rw [if_pos m1] at h1
        exact kinds_D6 w hg a c l hp hlen root page kind hpg hkd _ _ h1 h2 h3
      · rw [if_neg m2] at h2
        by_cases m1 : may (foldP (stepsFrom (rd h16 (puts l)) ((page % 512 : Nat) : Int) cd0 3 root)).r ((kind % 3 : Nat) : Int) true = false
        · rw [if_pos m1] at h1
          exact kinds_D5 w hg a c l hp hlen root page kind hpg hkd _ h1 h2 h3
        · rw [if_neg m1] at h1
          exact kinds_A w hg a c l hp hlen root page kind hpg hkd h1 h2 h3
    · rw [if_neg hb] at h1 h2 h3
      by_cases m2 : may (foldP (stepsFrom (rd h16 (puts l)) ((page % 512 : Nat) : Int) cd0 3 root)).r ((kind % 3 : Nat) : Int) false = false
      · rw [if_pos m2] at h2
        have m1 : may (foldP (stepsFrom (rd h16 (puts l)) ((page % 512 : Nat) : Int) cd0 3 root)).r ((kind % 3 : Nat) : Int) true = false := by
          cases hm : may (foldP (stepsFrom (rd h16 (puts l)) ((page % 512 : Nat) : Int) cd0 3 root)).r ((kind % 3 : Nat) : Int) true with
          | false => rfl
          | true => rw [may_user hm] at m2; cases m2
        rw [if_pos m1] at h1
        exact kinds_D3 w hg a c l hp hlen root page kind hpg hkd _ _ _ h1 h2 h3
      · rw [if_neg m2] at h2
        by_cases m1 : may (foldP (stepsFrom (rd h16 (puts l)) ((page % 512 : Nat) : Int) cd0 3 root)).r ((kind % 3 : Nat) : Int) true = false
        · rw [if_pos m1] at h1
          exact kinds_D2 w hg a c l hp hlen root page kind hpg hkd _ _ h1 h2 h3
        · rw [if_neg m1] at h1
          exact kinds_D1 w hg a c l hp hlen root page kind hpg hkd _ h1 h2 h3
end Go.Proofs.YtlldbfpccdmclaaDoor
