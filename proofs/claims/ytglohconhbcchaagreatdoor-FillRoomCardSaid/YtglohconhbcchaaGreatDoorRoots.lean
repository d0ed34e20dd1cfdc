/- The law WalkRoots: the walk. -/
import Derived.Test.YtglohconhbcchaaGreatDoorHead
namespace Go.Proofs.YtglohconhbcchaaGreatDoor
open Go.RowKit

theorem rd_out {mem : List Nat} {g : Int} (h : ¬ (0 ≤ g ∧ g < 16)) (i : Int) : rd h16 mem g i = none := by
  unfold rd place
  rw [if_neg (by rintro ⟨h1, h2, _⟩; exact h ⟨h1, h2⟩)]
  rfl
theorem wk_out {mem : List Nat} {root : Int} (h : ¬ (0 ≤ root ∧ root < 16)) (page kind : Int) (user : Bool) : out (wk (rd h16 mem) h16.length root page kind user) = (Path.none, 3, 0) := by
  have e : stepsFrom (rd h16 mem) page (fcode kind user) 3 root = [stepAt (rd h16 mem) page (fcode kind user) 3 root] := by
    have : (stepAt (rd h16 mem) page (fcode kind user) (2 + 1) root).er = some (3, 0) := by simp [stepAt, rd_out h]
    rw [stepsFrom, this]; simp
  unfold wk wkEnd
  rw [e]
  simp [stepAt, rd_out h, out]
theorem stepsFrom_len (get : Int → Int → Option Nat) (page : Int) (cd : Bool → Bool → Int) : ∀ (n : Nat) (g : Int), (stepsFrom get page cd n g).length ≤ n := by
  intro n
  induction n with
  | zero => intro g; simp [stepsFrom]
  | succ n ih =>
    intro g
    simp only [stepsFrom]
    split
    · simp
    · simp only [List.length_cons]; have := ih ((stepAt get page cd (n + 1) g).e.f : Int); omega
theorem wk_cases (get : Int → Int → Option Nat) (frames : Nat) (root page kind : Int) (user : Bool) :
    (∃ e, wk get frames root page kind user = .error e) ∨ (∃ p, wk get frames root page kind user = .ok p ∧ p.ats = (foldP (stepsFrom get page (fcode kind user) 3 root)).ats) := by
  obtain ⟨q, s, hq⟩ := stepsFrom_ne get page (fcode kind user) 2 root
  cases he : s.er with
  | some e => exact .inl ⟨e, wkEnd_err hq he⟩
  | none =>
    rw [wk, wkEnd_fin hq he]
    unfold fin
    by_cases h1 : may (foldP (stepsFrom get page (fcode kind user) (2 + 1) root)).r kind user = false
    · rw [if_pos h1]; exact .inl ⟨_, rfl⟩
    · rw [if_neg h1]
      by_cases h2 : (frames : Int) ≤ (if (foldP (stepsFrom get page (fcode kind user) (2 + 1) root)).large then (foldP (stepsFrom get page (fcode kind user) (2 + 1) root)).g + ix page 1 else (foldP (stepsFrom get page (fcode kind user) (2 + 1) root)).g)
      · rw [if_pos h2]; exact .inl ⟨_, rfl⟩
      · rw [if_neg h2]; exact .inr ⟨_, rfl, rfl⟩
theorem wk_len {get : Int → Int → Option Nat} {frames : Nat} {root page kind : Int} {user : Bool} {P : Path} {h k : Int} (ho : out (wk get frames root page kind user) = (P, h, k)) : P.ats.length ≤ 3 := by
  rcases wk_cases get frames root page kind user with ⟨e, he⟩ | ⟨p, hp, ha⟩
  · rw [he] at ho; simp only [out, Prod.mk.injEq] at ho; rw [← ho.1]; simp [Path.none]
  · rw [hp] at ho; simp only [out, Prod.mk.injEq] at ho; rw [← ho.1, ha, foldP_len]; exact stepsFrom_len _ _ _ _ _

end Go.Proofs.YtglohconhbcchaaGreatDoor
