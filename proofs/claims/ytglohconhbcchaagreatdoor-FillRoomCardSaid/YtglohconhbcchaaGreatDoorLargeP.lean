/- Large pages: plain lemmas. -/
import Derived.Test.YtglohconhbcchaaGreatDoorShape
namespace Go.Proofs.YtglohconhbcchaaGreatDoor
open Go.RowKit

theorem stepAt_ok {get : Int → Int → Option Nat} {page : Int} {cd : Bool → Bool → Int} {lv : Nat} {g : Int} (h : (stepAt get page cd lv g).er = none) :
    (get g (ix page lv)).isSome = true ∧ (stepAt get page cd lv g).e.p = true ∧ badE (stepAt get page cd lv g).e lv = false := by
  unfold stepAt at h ⊢
  dsimp only at h ⊢
  cases hg : get g (ix page lv) with
  | none => rw [hg] at h; simp at h
  | some v =>
    rw [hg] at h
    simp only [Option.isNone_some, Bool.false_eq_true, if_false, Option.getD_some] at h ⊢
    cases hp : (pte v).p with
    | false => rw [hp] at h; simp at h
    | true =>
      rw [hp] at h
      simp only [Bool.true_eq_false, if_false] at h
      cases hb : badE (pte v) lv with
      | true => simp [hb] at h
      | false => exact ⟨rfl, rfl, rfl⟩
theorem stepAt_ix {get : Int → Int → Option Nat} {page page' : Int} {cd : Bool → Bool → Int} {lv : Nat} {g : Int} (h : ix page lv = ix page' lv) : stepAt get page cd lv g = stepAt get page' cd lv g := by
  unfold stepAt; rw [h]
/-- a walk without an error: three small steps, or a large one behind one -/
theorem steps_forms {get : Int → Int → Option Nat} {page root : Int} (h : ∀ s, s ∈ stepsFrom get page cd0 3 root → s.er = none) :
    (∃ s3 s2, stepsFrom get page cd0 3 root = [s3, s2] ∧ s3 = stepAt get page cd0 3 root ∧ s2 = stepAt get page cd0 2 s3.e.f ∧ s3.e.ps = false ∧ s2.e.ps = true ∧ s2.e.f % 8 = 0) ∨
    (∃ s3 s2 s1, stepsFrom get page cd0 3 root = [s3, s2, s1] ∧ s3 = stepAt get page cd0 3 root ∧ s2 = stepAt get page cd0 2 s3.e.f ∧ s1 = stepAt get page cd0 1 s2.e.f ∧ s3.e.ps = false ∧ s2.e.ps = false ∧ s1.e.ps = false) := by
  have e3 : (stepAt get page cd0 3 root).er = none := h _ (by simp only [stepsFrom]; split <;> simp)
  obtain ⟨_, _, b3⟩ := stepAt_ok e3
  have p3 : (stepAt get page cd0 3 root).e.ps = false := by
    unfold badE at b3; simp at b3; revert b3; cases (stepAt get page cd0 3 root).e.ps <;> simp
  have l3 : stepsFrom get page cd0 3 root = stepAt get page cd0 3 root :: stepsFrom get page cd0 2 ((stepAt get page cd0 3 root).e.f : Int) := by
    rw [stepsFrom, if_neg]
    simp [e3, lastE, p3]
  have e2 : (stepAt get page cd0 2 ((stepAt get page cd0 3 root).e.f : Int)).er = none := h _ (by rw [l3]; refine List.mem_cons_of_mem _ ?_; simp only [stepsFrom]; split <;> simp)
  obtain ⟨_, _, b2⟩ := stepAt_ok e2
  obtain ⟨s3, hs3⟩ : ∃ s, stepAt get page cd0 3 root = s := ⟨_, rfl⟩
  rw [hs3] at e3 p3 l3 e2 b2
  obtain ⟨s2, hs2⟩ : ∃ s, stepAt get page cd0 2 (s3.e.f : Int) = s := ⟨_, rfl⟩
  rw [hs2] at e2 b2
  cases p2 : s2.e.ps with
  | true =>
    left
    refine ⟨s3, s2, ?_, hs3.symm, hs2.symm, p3, p2, ?_⟩
    · rw [l3, stepsFrom, if_pos]
      · simp only [Nat.reduceAdd]; rw [hs2]
      · simp only [Nat.reduceAdd]; rw [hs2]; simp [lastE, p2]
    · unfold badE at b2; rw [p2] at b2; simp at b2; omega
  | false =>
    right
    have l2 : stepsFrom get page cd0 2 (s3.e.f : Int) = s2 :: stepsFrom get page cd0 1 (s2.e.f : Int) := by
      rw [stepsFrom, if_neg]
      · simp only [Nat.reduceAdd]; rw [hs2]
      · simp only [Nat.reduceAdd]; rw [hs2]; simp [e2, lastE, p2]
    have l1 : stepsFrom get page cd0 1 (s2.e.f : Int) = [stepAt get page cd0 1 (s2.e.f : Int)] := by
      rw [stepsFrom, if_pos]
      simp [lastE]
    have e1 : (stepAt get page cd0 1 (s2.e.f : Int)).er = none := h _ (by rw [l3, l2, l1]; simp)
    obtain ⟨_, _, b1⟩ := stepAt_ok e1
    refine ⟨s3, s2, _, by rw [l3, l2, l1], hs3.symm, hs2.symm, rfl, p3, p2, ?_⟩
    unfold badE at b1; simp at b1; revert b1; cases (stepAt get page cd0 1 (s2.e.f : Int)).e.ps <;> simp

/-- the outcome of a walk that found something -/
theorem wk_found {get : Int → Int → Option Nat} {frames : Nat} {root page kind : Int} {user : Bool} {P : Path} {k : Int} (ho : out (wk get frames root page kind user) = (P, 0, k)) :
    (∀ s, s ∈ stepsFrom get page cd0 3 root → s.er = none) ∧ may (foldP (stepsFrom get page cd0 3 root)).r kind user = true ∧ ¬ (frames : Int) ≤ P.g ∧ P = endP page (foldP (stepsFrom get page cd0 3 root)) ∧ k = 0 := by
  rcases wk_forms get frames root page with h | h | h | ⟨h0, h⟩
  · rw [h] at ho; simp at ho
  · rw [h] at ho; simp at ho
  · rw [h] at ho; simp at ho
  · rw [h] at ho
    cases hm : may (foldP (stepsFrom get page cd0 3 root)).r kind user with
    | false => rw [hm] at ho; simp at ho
    | true =>
      rw [hm] at ho
      simp only [Bool.true_eq_false, if_false] at ho
      by_cases hb : (frames : Int) ≤ (endP page (foldP (stepsFrom get page cd0 3 root))).g
      · rw [if_pos hb] at ho; simp at ho
      · rw [if_neg hb] at ho
        simp only [Prod.mk.injEq] at ho
        obtain ⟨rfl, _, rfl⟩ := ho
        exact ⟨h0, rfl, hb, rfl, rfl⟩
theorem wk_of {get : Int → Int → Option Nat} {frames : Nat} {root page kind : Int} {user : Bool} (h0 : ∀ s, s ∈ stepsFrom get page cd0 3 root → s.er = none) (hm : may (foldP (stepsFrom get page cd0 3 root)).r kind user = true) :
    out (wk get frames root page kind user) = if (frames : Int) ≤ (endP page (foldP (stepsFrom get page cd0 3 root))).g then (Path.none, 3, 0) else (endP page (foldP (stepsFrom get page cd0 3 root)), 0, 0) := by
  obtain ⟨q, s, hq⟩ := stepsFrom_ne get page cd0 2 root
  have hcd : ∀ cd, stepsFrom get page cd 3 root = q.map (St.told cd) ++ [s.told cd] := by
    intro cd; rw [stepsFrom_rec, hq]; simp
  have hse : (s.told (fcode kind user)).er = none := by unfold St.told; rw [h0 s (by rw [hq]; simp)]
  rw [wk, wkEnd_fin (hcd (fcode kind user)) hse]
  have hf : foldP (stepsFrom get page (fcode kind user) 3 root) = foldP (stepsFrom get page cd0 3 root) := by rw [stepsFrom_rec, foldP_rec]
  rw [hf]
  unfold fin endP
  dsimp only
  rw [if_neg (by rw [hm]; decide)]
  by_cases h2 : (frames : Int) ≤ (if (foldP (stepsFrom get page cd0 3 root)).large then (foldP (stepsFrom get page cd0 3 root)).g + ix page 1 else (foldP (stepsFrom get page cd0 3 root)).g)
  · rw [if_pos h2, if_pos h2]; rfl
  · rw [if_neg h2, if_neg h2]; rfl

theorem ix_3 (n : Int) : ix n 3 = n / 64 % 8 := rfl
theorem ix_2 (n : Int) : ix n 2 = n / 8 % 8 := rfl
theorem ix_1 (n : Int) : ix n 1 = n % 8 := by have h : ix n 1 = n / 1 % 8 := rfl; rw [h]; omega
/-- a large page's pages -/
theorem large_pages {get : Int → Int → Option Nat} {frames : Nat} {root n : Int} {P : Path} {k : Int} (ho : out (wk get frames root n 0 false) = (P, 0, k)) (hl : P.large = true) :
    ∃ f : Int, P.ats.length = 2 ∧ P.g = f + n % 8 ∧ f % 8 = 0 ∧ 0 ≤ f ∧ f + n % 8 < frames ∧ ∀ i : Int, 0 ≤ i → i < 8 → out (wk get frames root (n / 8 * 8 + i) 0 false) = if (frames : Int) ≤ f + i then (Path.none, 3, 0) else ({ P with g := f + i }, 0, 0) := by
  obtain ⟨h0, hm, hfr, hP, rfl⟩ := wk_found ho
  have hF : (foldP (stepsFrom get n cd0 3 root)).large = true := by rw [hP] at hl; exact hl
  rcases steps_forms h0 with ⟨s3, s2, hL, e3, e2, p3, p2, hf⟩ | ⟨s3, s2, s1, hL, e3, e2, e1, p3, p2, p1⟩
  · have hfold : foldP (stepsFrom get n cd0 3 root) = ⟨[(s3.g, s3.i), (s2.g, s2.i)], (s2.e.f : Int), (Rt.all.meet (rtOf s3.e)).meet (rtOf s2.e), s2.e.ps, s2.e.d⟩ := by rw [hL]; rfl
    have hP' : P = ⟨[(s3.g, s3.i), (s2.g, s2.i)], (s2.e.f : Int) + n % 8, (Rt.all.meet (rtOf s3.e)).meet (rtOf s2.e), true, s2.e.d⟩ := by
      rw [hP, hfold]; unfold endP; dsimp only; rw [p2, if_pos rfl, ix_1]
    refine ⟨(s2.e.f : Int), by rw [hP']; rfl, by rw [hP'], by omega, by omega, by rw [hP'] at hfr; dsimp only at hfr; omega, fun i hi0 hi8 => ?_⟩
    have hL' : stepsFrom get (n / 8 * 8 + i) cd0 3 root = stepsFrom get n cd0 3 root := by
      have i3 : ix (n / 8 * 8 + i) (3 : Nat) = ix n (3 : Nat) := by show ix _ 3 = ix _ 3; rw [ix_3, ix_3]; omega
      have i2 : ix (n / 8 * 8 + i) (2 : Nat) = ix n (2 : Nat) := by show ix _ 2 = ix _ 2; rw [ix_2, ix_2]; omega
      have a3 : stepAt get (n / 8 * 8 + i) cd0 3 root = s3 := by rw [e3]; exact stepAt_ix i3
      have a2 : stepAt get (n / 8 * 8 + i) cd0 2 (s3.e.f : Int) = s2 := by rw [e2]; exact stepAt_ix i2
      have n3 : s3.er = none := h0 s3 (by rw [hL]; simp)
      rw [hL]
      have l3 : stepsFrom get (n / 8 * 8 + i) cd0 3 root = s3 :: stepsFrom get (n / 8 * 8 + i) cd0 2 (s3.e.f : Int) := by
        rw [stepsFrom, if_neg]
        · simp only [Nat.reduceAdd]; rw [a3]
        · simp only [Nat.reduceAdd]; rw [a3]; simp [n3, lastE, p3]
      rw [l3, stepsFrom, if_pos]
      · simp only [Nat.reduceAdd]; rw [a2]
      · simp only [Nat.reduceAdd]; rw [a2]; simp [lastE, p2]
    rw [wk_of (by rw [hL']; exact h0) (by rw [hL']; exact hm), hL', hfold, hP']
    unfold endP
    dsimp only
    rw [p2, if_pos rfl, ix_1]
    have ei : (n / 8 * 8 + i) % 8 = i := by omega
    rw [ei]
  · exfalso
    rw [hL] at hF
    have : (foldP [s3, s2, s1]).large = s1.e.ps := rfl
    rw [this, p1] at hF
    cases hF
end Go.Proofs.YtglohconhbcchaaGreatDoor
