/- With another frame in the last entry: plain lemmas. -/
import Derived.Test.YtgaififhhffpfaaGreatDoorLargeP
import Derived.Test.YtgaififhhffpfaaGreatDoorTwice
namespace Go.Proofs.YtgaififhhffpfaaGreatDoor
open Go.RowKit

theorem h16_at {g : Int} (h0 : 0 ≤ g) (h1 : g < 16) : h16[g.toNat]? = some g.toNat := by
  unfold h16
  rw [List.getElem?_range (by omega)]
theorem place16 (g i : Int) : place h16 g i = if 0 ≤ g ∧ g < 16 ∧ 0 ≤ i ∧ i < 8 then some (8 * g.toNat + i.toNat) else none := by
  unfold place
  have e : ((h16.length : Nat) : Int) = 16 := rfl
  rw [e]
  split
  · rename_i h; rw [h16_at h.1 h.2.1]; rfl
  · rfl
theorem rd_wr {mem : List Nat} (hl : mem.length = 128) (g i g' i' : Int) (v : Nat) : rd h16 (wr h16 mem g i v) g' i' = if g = g' ∧ i = i' ∧ (rd h16 mem g i).isSome then some v else rd h16 mem g' i' := by
  unfold rd wr
  rw [place16, place16]
  by_cases h : 0 ≤ g ∧ g < 16 ∧ 0 ≤ i ∧ i < 8
  · rw [if_pos h]
    by_cases h' : 0 ≤ g' ∧ g' < 16 ∧ 0 ≤ i' ∧ i' < 8
    · rw [if_pos h']
      simp only [Option.bind_some]
      by_cases he : g = g' ∧ i = i'
      · obtain ⟨rfl, rfl⟩ := he
        have hlt : 8 * g.toNat + i.toNat < mem.length := by omega
        rw [List.getElem?_set_self hlt, if_pos ⟨rfl, rfl, by rw [List.getElem?_eq_getElem hlt]; rfl⟩]
      · rw [List.getElem?_set_ne (by omega), if_neg (by intro h; exact he ⟨h.1, h.2.1⟩)]
    · rw [if_neg h']
      simp only [Option.bind_none]
      rw [if_neg (by rintro ⟨rfl, rfl, _⟩; exact h' h)]
  · rw [if_neg h]
    simp
/-- a word with another frame -/
def moved (v f : Nat) : Nat := (v &&& 18446744069414588415) ||| (f * 4096)
theorem moved_bit (v f j : Nat) (hv : v < 2 ^ 64) (hf : f < 16) : (moved v f).testBit j = if 12 ≤ j ∧ j < 32 then f.testBit (j - 12) else v.testBit j := by
  unfold moved
  have e : f * 4096 = f <<< 12 := by rw [Nat.shiftLeft_eq]
  rw [Nat.testBit_or, Nat.testBit_and, e, Nat.testBit_shiftLeft]
  by_cases hj : j < 64
  · have hm : ∀ n, n < 64 → (18446744069414588415 : Nat).testBit n = !(decide (12 ≤ n) && decide (n < 32)) := by decide
    rw [hm j hj]
    by_cases h1 : 12 ≤ j
    · by_cases h2 : j < 32
      · simp [h1, h2]
      · have : f.testBit (j - 12) = false := Nat.testBit_lt_two_pow (Nat.lt_of_lt_of_le hf (by
          have : 2 ^ 4 ≤ 2 ^ (j - 12) := Nat.pow_le_pow_right (by decide) (by omega)
          simpa using this))
        simp [h1, h2, this]
    · simp [h1]
  · have hv' : v.testBit j = false := Nat.testBit_lt_two_pow (Nat.lt_of_lt_of_le hv (Nat.pow_le_pow_right (by decide) (by omega)))
    have hf' : f.testBit (j - 12) = false := Nat.testBit_lt_two_pow (Nat.lt_of_lt_of_le hf (by
      have : 2 ^ 4 ≤ 2 ^ (j - 12) := Nat.pow_le_pow_right (by decide) (by omega)
      simpa using this))
    rw [hv', hf']
    simp
theorem moved_lt (v f : Nat) (hv : v < 2 ^ 64) (hf : f < 16) : moved v f < 2 ^ 64 := by
  unfold moved
  exact Nat.or_lt_two_pow (Nat.lt_of_le_of_lt Nat.and_le_left hv) (by omega)
theorem moved_pte (v f : Nat) (hv : v < 2 ^ 64) (hf : f < 16) : pte (moved v f) = { pte v with f := f } := by
  have hb : ∀ j, ¬ (12 ≤ j ∧ j < 32) → (moved v f).testBit j = v.testBit j := fun j hj => by rw [moved_bit v f j hv hf, if_neg hj]
  have hbad : moved v f &&& badMask = v &&& badMask := by
    refine Nat.eq_of_testBit_eq fun j => ?_
    rw [Nat.testBit_and, Nat.testBit_and]
    by_cases hj : 12 ≤ j ∧ j < 32
    · have hm : badMask.testBit j = false := by
        have : ∀ n, n < 32 → 12 ≤ n → badMask.testBit n = false := by decide
        exact this j hj.2 hj.1
      rw [hm]; simp
    · rw [hb j hj]
  have hfr : moved v f / 4096 % 1048576 = f := by
    refine Nat.eq_of_testBit_eq fun j => ?_
    have e1 : (1048576 : Nat) = 2 ^ 20 := rfl
    have e2 : (4096 : Nat) = 2 ^ 12 := rfl
    rw [e1, e2, Nat.testBit_mod_two_pow, Nat.testBit_div_two_pow, moved_bit v f _ hv hf]
    by_cases hj : j < 20
    · rw [if_pos (by omega)]; simp [hj]
    · have : f.testBit j = false := Nat.testBit_lt_two_pow (Nat.lt_of_lt_of_le hf (by
        have : 2 ^ 4 ≤ 2 ^ j := Nat.pow_le_pow_right (by decide) (by omega)
        simpa using this))
      simp [hj, this]
  unfold pte
  rw [hb 0 (by omega), hb 1 (by omega), hb 2 (by omega), hb 5 (by omega), hb 6 (by omega), hb 7 (by omega), hb 63 (by omega), hbad, hfr]

theorem stepAt_get {get get' : Int → Int → Option Nat} {page : Int} {cd : Bool → Bool → Int} {lv : Nat} {g : Int} (h : get' g (ix page lv) = get g (ix page lv)) : stepAt get' page cd lv g = stepAt get page cd lv g := by
  unfold stepAt; rw [h]
theorem stepAt_moved {get get' : Int → Int → Option Nat} {page : Int} {lv : Nat} {g : Int} {v t : Nat} (h : get g (ix page lv) = some v) (h' : get' g (ix page lv) = some (moved v t)) (hv : v < 2 ^ 64) (ht : t < 16)
    (her : (stepAt get page cd0 lv g).er = none) (hb : (stepAt get page cd0 lv g).e.ps = true → lv = 2 ∧ t % 8 = 0) :
    stepAt get' page cd0 lv g = { stepAt get page cd0 lv g with e := { (stepAt get page cd0 lv g).e with f := t } } := by
  obtain ⟨_, hp, hbad⟩ := stepAt_ok her
  have he : (stepAt get page cd0 lv g).e = pte v := by unfold stepAt; rw [h]; rfl
  rw [he] at hp hbad hb ⊢
  have e1 : stepAt get page cd0 lv g = { e := pte v, lv := lv, g := g, i := ix page lv, er := none } := by
    have := her
    unfold stepAt at this ⊢
    rw [h] at this ⊢
    simp only [Option.getD_some] at this ⊢
    rw [this]
  rw [e1]
  unfold stepAt
  rw [h']
  simp only [Option.getD_some, Option.isNone_some, Bool.false_eq_true, if_false, moved_pte v t hv ht]
  have hb2 : badE { pte v with f := t } lv = false := by
    unfold badE at hbad ⊢
    dsimp only
    cases hps : (pte v).ps with
    | false => rw [hps] at hbad; simpa using hbad
    | true =>
      obtain ⟨h2, h8⟩ := hb hps
      rw [hps] at hbad
      simp at hbad
      simp [hbad.1, h2, h8]
  rw [if_neg (by rw [hp]; decide), if_neg (fun hc => absurd (hb2.symm.trans hc) (by decide))]
theorem steps_two {get : Int → Int → Option Nat} {page root : Int} {s3 s2 : St} (e3 : stepAt get page cd0 3 root = s3) (e2 : stepAt get page cd0 2 (s3.e.f : Int) = s2) (n3 : s3.er = none) (p3 : s3.e.ps = false) (p2 : s2.e.ps = true) : stepsFrom get page cd0 3 root = [s3, s2] := by
  have l3 : stepsFrom get page cd0 3 root = s3 :: stepsFrom get page cd0 2 (s3.e.f : Int) := by
    rw [stepsFrom, if_neg]
    · simp only [Nat.reduceAdd]; rw [e3]
    · simp only [Nat.reduceAdd]; rw [e3]; simp [n3, lastE, p3]
  rw [l3, stepsFrom, if_pos]
  · simp only [Nat.reduceAdd]; rw [e2]
  · simp only [Nat.reduceAdd]; rw [e2]; simp [lastE, p2]
theorem steps_three {get : Int → Int → Option Nat} {page root : Int} {s3 s2 s1 : St} (e3 : stepAt get page cd0 3 root = s3) (e2 : stepAt get page cd0 2 (s3.e.f : Int) = s2) (e1 : stepAt get page cd0 1 (s2.e.f : Int) = s1) (n3 : s3.er = none) (p3 : s3.e.ps = false) (n2 : s2.er = none) (p2 : s2.e.ps = false) :
    stepsFrom get page cd0 3 root = [s3, s2, s1] := by
  have l3 : stepsFrom get page cd0 3 root = s3 :: stepsFrom get page cd0 2 (s3.e.f : Int) := by
    rw [stepsFrom, if_neg]
    · simp only [Nat.reduceAdd]; rw [e3]
    · simp only [Nat.reduceAdd]; rw [e3]; simp [n3, lastE, p3]
  have l2 : stepsFrom get page cd0 2 (s3.e.f : Int) = s2 :: stepsFrom get page cd0 1 (s2.e.f : Int) := by
    rw [stepsFrom, if_neg]
    · simp only [Nat.reduceAdd]; rw [e2]
    · simp only [Nat.reduceAdd]; rw [e2]; simp [n2, lastE, p2]
  rw [l3, l2, stepsFrom, if_pos]
  · simp only [Nat.reduceAdd]; rw [e1]
  · simp [lastE]

/-- With another frame in the last entry. -/
theorem moves_pure {mem : List Nat} {root n kind : Int} {user : Bool} {P : Path} {k : Int} (hl : mem.length = 128) (hbd : ∀ v, v ∈ mem → v < 2 ^ 64) (ho : out (wk (rd h16 mem) h16.length root n kind user) = (P, 0, k)) (hd : dup P.ats = false)
    (t : Nat) (ht : t < 16) (htl : P.large = true → t % 8 = 0) :
    ∃ g i v, P.ats.getD (P.ats.length - 1) (0, 0) = (g, i) ∧ ((P.large = true ∧ P.ats.length = 2) ∨ (P.large = false ∧ P.ats.length = 3)) ∧ rd h16 mem g i = some v ∧ v < 2 ^ 64 ∧
      out (wk (rd h16 (wr h16 mem g i (moved v t))) h16.length root n kind user) = ({ P with g := (t : Int) + (if P.large then n % 8 else 0) }, 0, 0) := by
  obtain ⟨h0, hm, hfr, hP, rfl⟩ := wk_found ho
  have hfr16 : ((h16.length : Nat) : Int) = 16 := rfl
  have hrdv : ∀ g i v, rd h16 mem g i = some v → v < 2 ^ 64 := fun g i v h => by have := rd_lt (hosts := h16) hbd g i; rw [h] at this; exact this
  have hix : ∀ lv : Nat, ix n lv = ix n lv := fun _ => rfl
  rcases steps_forms h0 with ⟨s3, s2, hL, e3, e2, p3, p2, hf⟩ | ⟨s3, s2, s1, hL, e3, e2, e1, p3, p2, p1⟩
  · have n3 : s3.er = none := h0 s3 (by rw [hL]; simp)
    have n2 : s2.er = none := h0 s2 (by rw [hL]; simp)
    have hfold : foldP (stepsFrom (rd h16 mem) n cd0 3 root) = ⟨[(s3.g, s3.i), (s2.g, s2.i)], (s2.e.f : Int), (Rt.all.meet (rtOf s3.e)).meet (rtOf s2.e), s2.e.ps, s2.e.d⟩ := by rw [hL]; rfl
    have hPl : P.large = true := by rw [hP, hfold]; exact p2
    have hPa : P.ats = [(s3.g, s3.i), (s2.g, s2.i)] := by rw [hP, hfold]; rfl
    have g3 : s3.g = root ∧ s3.i = ix n 3 := by rw [e3]; exact ⟨rfl, rfl⟩
    have g2 : s2.g = (s3.e.f : Int) ∧ s2.i = ix n 2 := by rw [e2]; exact ⟨rfl, rfl⟩
    have hne : ¬ (s2.g = s3.g ∧ s2.i = s3.i) := by
      rintro ⟨ha, hb⟩
      rw [hPa] at hd
      unfold dup ahead at hd
      simp [List.range_succ, ha, hb] at hd
    obtain ⟨hs2, _, _⟩ := stepAt_ok (e2 ▸ n2)
    obtain ⟨v, hv⟩ := Option.isSome_iff_exists.1 hs2
    have hv2 := hrdv _ _ _ hv
    have hv' : rd h16 mem s2.g s2.i = some v := by rw [g2.1, g2.2]; exact hv
    refine ⟨s2.g, s2.i, v, by rw [hPa]; rfl, .inl ⟨hPl, by rw [hPa]; rfl⟩, hv', hv2, ?_⟩
    have k3 : stepAt (rd h16 (wr h16 mem s2.g s2.i (moved v t))) n cd0 3 root = s3 := by
      rw [e3]
      refine stepAt_get ?_
      rw [rd_wr hl, if_neg]
      rintro ⟨ha, hb, _⟩
      exact hne ⟨ha.trans g3.1.symm, hb.trans g3.2.symm⟩
    have k2 : stepAt (rd h16 (wr h16 mem s2.g s2.i (moved v t))) n cd0 2 (s3.e.f : Int) = { s2 with e := { s2.e with f := t } } := by
      rw [stepAt_moved (get := rd h16 mem) hv (by rw [rd_wr hl, if_pos ⟨g2.1, g2.2, by rw [hv']; rfl⟩]) hv2 ht (e2 ▸ n2) (fun _ => ⟨rfl, htl hPl⟩), ← e2]
    have hL' := steps_two k3 k2 n3 p3 p2
    have hfold' : foldP (stepsFrom (rd h16 (wr h16 mem s2.g s2.i (moved v t))) n cd0 3 root) = ⟨[(s3.g, s3.i), (s2.g, s2.i)], (t : Int), (Rt.all.meet (rtOf s3.e)).meet (rtOf s2.e), s2.e.ps, s2.e.d⟩ := by rw [hL']; rfl
    rw [wk_of (by rw [hL']; intro z hz; simp at hz; rcases hz with rfl | rfl <;> assumption) (by rw [hfold']; rw [hfold] at hm; exact hm), hfold', hPl]
    unfold endP
    dsimp only
    rw [p2, if_pos rfl, if_pos rfl, ix_1]
    have h8 := htl hPl
    rw [if_neg (by rw [hfr16]; omega)]
    rw [hP, hfold]
    unfold endP
    dsimp only
  · have n3 : s3.er = none := h0 s3 (by rw [hL]; simp)
    have n2 : s2.er = none := h0 s2 (by rw [hL]; simp)
    have n1 : s1.er = none := h0 s1 (by rw [hL]; simp)
    have hfold : foldP (stepsFrom (rd h16 mem) n cd0 3 root) = ⟨[(s3.g, s3.i), (s2.g, s2.i), (s1.g, s1.i)], (s1.e.f : Int), ((Rt.all.meet (rtOf s3.e)).meet (rtOf s2.e)).meet (rtOf s1.e), s1.e.ps, s1.e.d⟩ := by rw [hL]; rfl
    have hPl : P.large = false := by rw [hP, hfold]; exact p1
    have hPa : P.ats = [(s3.g, s3.i), (s2.g, s2.i), (s1.g, s1.i)] := by rw [hP, hfold]; rfl
    have g3 : s3.g = root ∧ s3.i = ix n 3 := by rw [e3]; exact ⟨rfl, rfl⟩
    have g2 : s2.g = (s3.e.f : Int) ∧ s2.i = ix n 2 := by rw [e2]; exact ⟨rfl, rfl⟩
    have g1 : s1.g = (s2.e.f : Int) ∧ s1.i = ix n 1 := by rw [e1]; exact ⟨rfl, rfl⟩
    have hne : ¬ (s1.g = s3.g ∧ s1.i = s3.i) ∧ ¬ (s1.g = s2.g ∧ s1.i = s2.i) := by
      rw [hPa] at hd
      unfold dup ahead at hd
      constructor
      · rintro ⟨ha, hb⟩
        simp [List.range_succ, ha, hb] at hd
      · rintro ⟨ha, hb⟩
        simp [List.range_succ, ha, hb] at hd
    obtain ⟨hs1, _, _⟩ := stepAt_ok (e1 ▸ n1)
    obtain ⟨v, hv⟩ := Option.isSome_iff_exists.1 hs1
    have hv2 := hrdv _ _ _ hv
    have hv' : rd h16 mem s1.g s1.i = some v := by rw [g1.1, g1.2]; exact hv
    refine ⟨s1.g, s1.i, v, by rw [hPa]; rfl, .inr ⟨hPl, by rw [hPa]; rfl⟩, hv', hv2, ?_⟩
    have k3 : stepAt (rd h16 (wr h16 mem s1.g s1.i (moved v t))) n cd0 3 root = s3 := by
      rw [e3]
      refine stepAt_get ?_
      rw [rd_wr hl, if_neg]
      rintro ⟨ha, hb, _⟩
      exact hne.1 ⟨ha.trans g3.1.symm, hb.trans g3.2.symm⟩
    have k2 : stepAt (rd h16 (wr h16 mem s1.g s1.i (moved v t))) n cd0 2 (s3.e.f : Int) = s2 := by
      rw [e2]
      refine stepAt_get ?_
      rw [rd_wr hl, if_neg]
      rintro ⟨ha, hb, _⟩
      exact hne.2 ⟨ha.trans g2.1.symm, hb.trans g2.2.symm⟩
    have k1 : stepAt (rd h16 (wr h16 mem s1.g s1.i (moved v t))) n cd0 1 (s2.e.f : Int) = { s1 with e := { s1.e with f := t } } := by
      rw [stepAt_moved (get := rd h16 mem) hv (by rw [rd_wr hl, if_pos ⟨g1.1, g1.2, by rw [hv']; rfl⟩]) hv2 ht (e1 ▸ n1) (fun h => by rw [← e1, p1] at h; cases h), ← e1]
    have hL' := steps_three k3 k2 k1 n3 p3 n2 p2
    have hfold' : foldP (stepsFrom (rd h16 (wr h16 mem s1.g s1.i (moved v t))) n cd0 3 root) = ⟨[(s3.g, s3.i), (s2.g, s2.i), (s1.g, s1.i)], (t : Int), ((Rt.all.meet (rtOf s3.e)).meet (rtOf s2.e)).meet (rtOf s1.e), s1.e.ps, s1.e.d⟩ := by rw [hL']; rfl
    rw [wk_of (by rw [hL']; intro z hz; simp at hz; rcases hz with rfl | rfl | rfl <;> assumption) (by rw [hfold']; rw [hfold] at hm; exact hm), hfold', hPl]
    unfold endP
    dsimp only
    simp only [p1, Bool.false_eq_true, if_false]
    rw [if_neg (by rw [hfr16]; omega)]
    rw [hP, hfold]
    unfold endP
    dsimp only
    simp
end Go.Proofs.YtgaififhhffpfaaGreatDoor
