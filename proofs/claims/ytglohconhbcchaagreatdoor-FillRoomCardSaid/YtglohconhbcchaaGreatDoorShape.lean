/- How a walk's outcome hangs on the kind of the access and its user: plain lemmas. -/
import Derived.Test.YtglohconhbcchaaGreatDoorRoots
namespace Go.Proofs.YtglohconhbcchaaGreatDoor
open Go.RowKit

/-- a step with its code told anew -/
def St.told (cd : Bool → Bool → Int) (s : St) : St := { s with er := match s.er with | some (1, c) => some (1, if c = 0 then cd false false else cd true true) | x => x }
def cd0 : Bool → Bool → Int := fun a _ => if a then 1 else 0
theorem stepAt_rec (get : Int → Int → Option Nat) (page : Int) (cd : Bool → Bool → Int) (lv : Nat) (g : Int) : stepAt get page cd lv g = (stepAt get page cd0 lv g).told cd := by
  unfold stepAt St.told
  dsimp only
  congr 1
  split
  · rfl
  · split
    · simp [cd0]
    · split
      · simp [cd0]
      · rfl
theorem told_er (cd : Bool → Bool → Int) (s : St) : (s.told cd).er.isSome = s.er.isSome := by
  unfold St.told
  cases h : s.er with
  | none => rfl
  | some x =>
    obtain ⟨a, b⟩ := x
    dsimp only
    split <;> rfl
theorem stepsFrom_rec (get : Int → Int → Option Nat) (page : Int) (cd : Bool → Bool → Int) : ∀ (n : Nat) (g : Int), stepsFrom get page cd n g = (stepsFrom get page cd0 n g).map (St.told cd) := by
  intro n
  induction n with
  | zero => intro g; rfl
  | succ n ih =>
    intro g
    have hs := stepAt_rec get page cd (n + 1) g
    have h1 : (stepAt get page cd (n + 1) g).er.isSome = (stepAt get page cd0 (n + 1) g).er.isSome := by rw [hs, told_er]
    have h2 : (stepAt get page cd (n + 1) g).e = (stepAt get page cd0 (n + 1) g).e := by rw [hs]; rfl
    simp only [stepsFrom]
    rw [h1, h2]
    split
    · simp [hs]
    · simp [hs, ih]
theorem foldP_rec (cd : Bool → Bool → Int) (l : List St) : foldP (l.map (St.told cd)) = foldP l := by
  unfold foldP
  generalize Path.start = p
  induction l generalizing p with
  | nil => rfl
  | cons a l ih => simp only [List.map_cons, List.foldl_cons]; exact ih _
theorem er_forms (get : Int → Int → Option Nat) (page : Int) : ∀ (n : Nat) (g : Int) (s : St), s ∈ stepsFrom get page cd0 n g → s.er = none ∨ s.er = some (3, 0) ∨ s.er = some (1, 0) ∨ s.er = some (1, 1) := by
  have h0 : ∀ lv g, (stepAt get page cd0 lv g).er = none ∨ (stepAt get page cd0 lv g).er = some (3, 0) ∨ (stepAt get page cd0 lv g).er = some (1, 0) ∨ (stepAt get page cd0 lv g).er = some (1, 1) := by
    intro lv g
    unfold stepAt
    dsimp only
    split
    · simp
    · split
      · simp [cd0]
      · split
        · simp [cd0]
        · simp
  intro n
  induction n with
  | zero => intro g s h; simp [stepsFrom] at h
  | succ n ih =>
    intro g s h
    simp only [stepsFrom] at h
    split at h
    · simp at h; subst h; exact h0 _ _
    · rcases List.mem_cons.1 h with h | h
      · subst h; exact h0 _ _
      · exact ih _ _ h
/-- the path that the last entry tells -/
def endP (page : Int) (p : Path) : Path := { p with g := if p.large then p.g + ix page 1 else p.g }
/-- The four shapes of an outcome, for all accesses at once. -/
theorem wk_forms (get : Int → Int → Option Nat) (frames : Nat) (root page : Int) :
    (∀ kind user, out (wk get frames root page kind user) = (Path.none, 3, 0)) ∨
    (∀ kind user, out (wk get frames root page kind user) = (Path.none, 1, fcode kind user false false)) ∨
    (∀ kind user, out (wk get frames root page kind user) = (Path.none, 1, fcode kind user true true)) ∨
    ((∀ s, s ∈ stepsFrom get page cd0 3 root → s.er = none) ∧ ∀ kind user, out (wk get frames root page kind user) =
      if may (foldP (stepsFrom get page cd0 3 root)).r kind user = false then (Path.none, 1, fcode kind user true false)
      else if (frames : Int) ≤ (endP page (foldP (stepsFrom get page cd0 3 root))).g then (Path.none, 3, 0) else (endP page (foldP (stepsFrom get page cd0 3 root)), 0, 0)) := by
  obtain ⟨q, s, hq⟩ := stepsFrom_ne get page cd0 2 root
  have hcd : ∀ cd, stepsFrom get page cd 3 root = q.map (St.told cd) ++ [s.told cd] := by
    intro cd; rw [stepsFrom_rec, hq]; simp
  have hsm : s ∈ stepsFrom get page cd0 3 root := by rw [hq]; simp
  rcases er_forms get page 3 root s hsm with h | h | h | h
  · refine .inr (.inr (.inr ⟨?_, fun kind user => ?_⟩))
    · intro z hz
      rw [hq] at hz
      cases he : z.er with
      | none => rfl
      | some x =>
        exfalso
        rcases List.mem_append.1 hz with h1 | h1
        · obtain ⟨a, b, rfl⟩ := List.append_of_mem h1
          have := stepsFrom_noerr (pre := a) (s := z) (q := b ++ [s]) (by simpa using hq.symm) (by rw [he]; rfl)
          simp at this
        · simp at h1; subst h1; rw [h] at he; cases he
    · have hse : (s.told (fcode kind user)).er = none := by unfold St.told; rw [h]
      rw [wk, wkEnd_fin (hcd (fcode kind user)) hse]
      have hf : foldP (stepsFrom get page (fcode kind user) 3 root) = foldP (stepsFrom get page cd0 3 root) := by rw [stepsFrom_rec, foldP_rec]
      rw [hf]
      unfold fin endP
      dsimp only
      by_cases h1 : may (foldP (stepsFrom get page cd0 3 root)).r kind user = false
      · rw [if_pos h1, if_pos h1]; rfl
      · rw [if_neg h1, if_neg h1]
        by_cases h2 : (frames : Int) ≤ (if (foldP (stepsFrom get page cd0 3 root)).large then (foldP (stepsFrom get page cd0 3 root)).g + ix page 1 else (foldP (stepsFrom get page cd0 3 root)).g)
        · rw [if_pos h2, if_pos h2]; rfl
        · rw [if_neg h2, if_neg h2]; rfl
  · refine .inl fun kind user => ?_
    rw [wk, wkEnd_err (hcd (fcode kind user)) (e := (3, 0)) (by unfold St.told; rw [h]; rfl)]; rfl
  · refine .inr (.inl fun kind user => ?_)
    rw [wk, wkEnd_err (hcd (fcode kind user)) (e := (1, fcode kind user false false)) (by unfold St.told; rw [h]; simp)]; rfl
  · refine .inr (.inr (.inl fun kind user => ?_))
    rw [wk, wkEnd_err (hcd (fcode kind user)) (e := (1, fcode kind user true true)) (by unfold St.told; rw [h]; simp)]; rfl
end Go.Proofs.YtglohconhbcchaaGreatDoor
