/- Laws of Find, and of an access that is not known, in plain Lean. -/
import Derived.Test.YtgaififhhffpfaaGreatDoorAgain
namespace Go.Proofs.YtgaififhhffpfaaGreatDoor
open Go.RowKit Go.Shelf

theorem do_root (S : S10) (o : Op10) (h : o.what ≠ 6) : (doR S o).2.root = S.root := by
  unfold doR
  split
  · rfl
  · split
    · rfl
    · first | (rw [if_neg h]; split <;> rfl) | (split <;> rfl)
theorem find_known {S : S10} {n : Int} {h : Hit} (hg : tget S.l 0 n = some h) : findR S.mem S.root S.l n = (false, S.l) := by
  unfold findR; rw [hg]; rfl
theorem find_bad {S : S10} {n : Int} {P : Path} {hw k : Int} (hg : tget S.l 0 n = none) (ho : out (wk (rd h16 S.mem) h16.length S.root n 0 false) = (P, hw, k)) (hh : hw ≠ 0) : findR S.mem S.root S.l n = (false, S.l) := by
  unfold findR; rw [hg, ho, if_neg (by simp), if_neg hh]
theorem find_unm {S : S10} {n : Int} {P : Path} {k : Int} (hg : tget S.l 0 n = none) (ho : out (wk (rd h16 S.mem) h16.length S.root n 0 false) = (P, 0, k)) (hu : P.ats.any (unused h16 S.mem) = true) : findR S.mem S.root S.l n = (false, S.l) := by
  unfold findR; rw [hg, ho, if_neg (by simp), if_pos rfl, if_pos hu]
theorem find_yes {S : S10} {n : Int} {P : Path} {k : Int} (hg : tget S.l 0 n = none) (ho : out (wk (rd h16 S.mem) h16.length S.root n 0 false) = (P, 0, k)) (hu : P.ats.any (unused h16 S.mem) = false) : findR S.mem S.root S.l n = (true, tput 512 S.l (foundH n P false)) := by
  unfold findR; rw [hg, ho, if_neg (by simp), if_pos rfl, if_neg (by rw [hu]; simp)]
theorem trans_miss {S : S10} {n kind : Int} {user : Bool} (hg : tget S.l 0 n = none) : transR S.mem S.root S.l kind user n = missR S.mem S.root S.l kind user n (out (wk (rd h16 S.mem) h16.length S.root n kind user)) := by
  unfold transR; rw [hg]
theorem acc_miss {S : S10} {a : Nat} {kind : Int} {user : Bool} {P : Path} {hw k : Int} (x : Nat) (hal : a % 8 = 0) (hc : wideOf a = a) (hg : tget S.l 0 (pageOf a) = none) (ho : out (wk (rd h16 S.mem) h16.length S.root (pageOf a) kind user) = (P, hw, k)) :
    accS S kind user a x = if hw = 0 then (if kind = 1 then (⟨0, 0, 0, 0⟩, ⟨wr h16 (markM S.mem P true) P.g (wordOf a) x, S.root, tput 512 (tdrop S.l 0 (pageOf a)) (foundH (pageOf a) P true)⟩)
      else (⟨0, (rd h16 (markM S.mem P false) P.g (wordOf a)).getD 0, 0, 0⟩, ⟨markM S.mem P false, S.root, tput 512 (tdrop S.l 0 (pageOf a)) (foundH (pageOf a) P false)⟩))
      else (⟨hw, 0, k, a⟩, ⟨S.mem, S.root, tdrop S.l 0 (pageOf a)⟩) := by
  have ht := trans_miss (kind := kind) (user := user) hg
  rw [ho] at ht
  unfold accS accR
  rw [if_pos hal, if_pos hc]
  dsimp only
  rw [ht]
  unfold missR
  dsimp only
  by_cases h0 : hw = 0
  · rw [if_pos h0, if_pos h0]
    dsimp only
    rw [if_pos rfl]
    by_cases hk : kind = 1
    · subst hk; rfl
    · have hk' : (kind == 1) = false := beq_eq_false_iff_ne.2 hk
      rw [if_neg hk, if_neg hk, hk']
      rfl
  · rw [if_neg h0, if_neg h0]
    dsimp only
    rw [if_neg h0]
end Go.Proofs.YtgaififhhffpfaaGreatDoor
