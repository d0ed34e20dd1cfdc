/- A walk behind a Mark: plain lemmas. -/
import Derived.Test.YtgaififhhffpfaaGreatDoorMovesP
import Derived.Test.YtgaififhhffpfaaGreatDoorMark2
namespace Go.Proofs.YtgaififhhffpfaaGreatDoor
open Go.RowKit

def tok (t : Nat) : Prop := t = 0 ∨ t = 32 ∨ t = 96
theorem usedW_or {x t : Nat} (ht : tok t) (b : Bool) : ∃ t', tok t' ∧ t' ≠ 0 ∧ usedW (x ||| t) b = x ||| t' := by
  unfold usedW
  rcases ht with rfl | rfl | rfl <;> cases b
  · exact ⟨32, .inr (.inl rfl), by decide, by simp⟩
  · exact ⟨96, .inr (.inr rfl), by decide, by simp [Nat.or_assoc]⟩
  · exact ⟨32, .inr (.inl rfl), by decide, by simp [Nat.or_assoc]⟩
  · exact ⟨96, .inr (.inr rfl), by decide, by simp [Nat.or_assoc]⟩
  · exact ⟨96, .inr (.inr rfl), by decide, by simp [Nat.or_assoc]⟩
  · exact ⟨96, .inr (.inr rfl), by decide, by simp [Nat.or_assoc]⟩
theorem markTo_len (l : List (Int × Int)) (wt : Bool) (mem : List Nat) (k : Nat) : (markTo h16 l wt mem k).length = mem.length := by
  induction k with
  | zero => rfl
  | succ k ih =>
    rw [markTo]
    unfold wr
    split
    · rw [List.length_set, ih]
    · exact ih
theorem mark_none {l : List (Int × Int)} {wt : Bool} {mem : List Nat} (hl : mem.length = 128) {g i : Int} (h : rd h16 mem g i = none) (k : Nat) : rd h16 (markTo h16 l wt mem k) g i = none := by
  induction k with
  | zero => exact h
  | succ k ih =>
    rw [markTo]
    rw [rd_wr (by rw [markTo_len, hl]), if_neg, ih]
    rintro ⟨h1, h2, hs⟩
    rw [h1, h2, ih] at hs
    cases hs
theorem mark_some {l : List (Int × Int)} {wt : Bool} {mem : List Nat} (hl : mem.length = 128) {g i : Int} {x : Nat} (h : rd h16 mem g i = some x) (k : Nat) (hk : k ≤ l.length) :
    ∃ t, tok t ∧ rd h16 (markTo h16 l wt mem k) g i = some (x ||| t) ∧ ((g, i) ∈ l.take k → t ≠ 0) ∧ ((g, i) ∉ l.take k → t = 0) := by
  induction k with
  | zero => exact ⟨0, .inl rfl, by simpa [markTo] using h, by simp, by simp⟩
  | succ k ih =>
    obtain ⟨t, h1, h2, h3, h4⟩ := ih (by omega)
    have hkl : k < l.length := by omega
    have htake : l.take (k + 1) = l.take k ++ [l.getD k (0, 0)] := by
      rw [List.take_add_one, List.getElem?_eq_getElem hkl]; simp [List.getD, List.getElem?_eq_getElem hkl]
    rw [markTo]
    obtain ⟨⟨a, b⟩, hq⟩ : ∃ q, l.getD k (0, 0) = q := ⟨_, rfl⟩
    rw [hq] at htake ⊢
    rw [rd_wr (by rw [markTo_len, hl]), htake]
    by_cases he : a = g ∧ b = i
    · obtain ⟨rfl, rfl⟩ := he
      rw [if_pos ⟨rfl, rfl, by rw [h2]; rfl⟩, h2]
      obtain ⟨t', u1, u2, u3⟩ := usedW_or (x := x) h1 (wt && decide (k + 1 = l.length))
      exact ⟨t', u1, by rw [Option.getD_some, u3], fun _ => u2, fun hn => absurd (by simp) hn⟩
    · rw [if_neg (fun hc => he ⟨hc.1, hc.2.1⟩)]
      refine ⟨t, h1, h2, fun hm => h3 ?_, fun hn => h4 (fun hm => hn (List.mem_append_left _ hm))⟩
      rcases List.mem_append.1 hm with h | h
      · exact h
      · simp at h; exact absurd ⟨h.1.symm, h.2.symm⟩ he
theorem mark_last {l : List (Int × Int)} {wt : Bool} {mem : List Nat} (hl : mem.length = 128) {g i : Int} {x n : Nat} (h : rd h16 mem g i = some x) (hn : l.length = n + 1) (hq : l.getD n (0, 0) = (g, i)) (hnot : (g, i) ∉ l.take n) :
    rd h16 (markMem h16 l wt mem) g i = some (usedW x wt) := by
  unfold markMem
  rw [hn, markTo]
  obtain ⟨t, h1, h2, h3, h4⟩ := mark_some (l := l) (wt := wt) hl h n (by omega)
  obtain rfl := h4 hnot
  rw [hq]
  rw [rd_wr (by rw [markTo_len, hl]), h2, if_pos ⟨rfl, rfl, rfl⟩, hn]
  simp
theorem pte_or {x t : Nat} (ht : tok t) : pte (x ||| t) = { pte x with a := x.testBit 5 || t.testBit 5, d := x.testBit 6 || t.testBit 6 } := by
  have hb : ∀ n, n = 0 ∨ n = 1 ∨ n = 2 ∨ n = 7 ∨ n = 63 → (x ||| t).testBit n = x.testBit n := by
    intro n hn
    rw [Nat.testBit_or]
    have : t.testBit n = false := by rcases ht with rfl | rfl | rfl <;> rcases hn with rfl | rfl | rfl | rfl | rfl <;> decide
    rw [this, Bool.or_false]
  have hbad : (x ||| t) &&& badMask = x &&& badMask := by
    rw [Nat.and_or_distrib_right]
    have : t &&& badMask = 0 := by rcases ht with rfl | rfl | rfl <;> decide
    rw [this, Nat.or_zero]
  have hf : (x ||| t) / 4096 % 1048576 = x / 4096 % 1048576 := by
    refine congrArg (· % 1048576) ?_
    refine Nat.eq_of_testBit_eq fun j => ?_
    have e2 : (4096 : Nat) = 2 ^ 12 := rfl
    rw [e2, Nat.testBit_div_two_pow, Nat.testBit_div_two_pow, Nat.testBit_or]
    have : t.testBit (j + 12) = false := by
      refine Nat.testBit_lt_two_pow (Nat.lt_of_lt_of_le (m := 2 ^ 12) ?_ (Nat.pow_le_pow_right (by decide) (by omega)))
      rcases ht with rfl | rfl | rfl <;> decide
    rw [this, Bool.or_false]
  unfold pte
  rw [hb 0 (by omega), hb 1 (by omega), hb 2 (by omega), hb 7 (by omega), hb 63 (by omega), hbad, hf, Nat.testBit_or, Nat.testBit_or]
theorem stepAt_used {get get' : Int → Int → Option Nat} {page : Int} {lv : Nat} {g : Int} {x t : Nat} (h : get g (ix page lv) = some x) (h' : get' g (ix page lv) = some (x ||| t)) (ht : tok t)
    (her : (stepAt get page cd0 lv g).er = none) :
    stepAt get' page cd0 lv g = { stepAt get page cd0 lv g with e := { (stepAt get page cd0 lv g).e with a := x.testBit 5 || t.testBit 5, d := x.testBit 6 || t.testBit 6 } } := by
  obtain ⟨_, hp, hbad⟩ := stepAt_ok her
  have he : (stepAt get page cd0 lv g).e = pte x := by unfold stepAt; rw [h]; rfl
  rw [he] at hp hbad ⊢
  have e1 : stepAt get page cd0 lv g = { e := pte x, lv := lv, g := g, i := ix page lv, er := none } := by
    have := her
    unfold stepAt at this ⊢
    rw [h] at this ⊢
    simp only [Option.getD_some] at this ⊢
    rw [this]
  rw [e1]
  unfold stepAt
  rw [h']
  simp only [Option.getD_some, Option.isNone_some, Bool.false_eq_true, if_false, pte_or ht]
  have hb2 : badE { pte x with a := x.testBit 5 || t.testBit 5, d := x.testBit 6 || t.testBit 6 } lv = false := hbad
  rw [if_neg (by rw [hp]; decide), if_neg (fun hc => absurd (hb2.symm.trans hc) (by decide))]
theorem usedW_d (x : Nat) (wt : Bool) : (pte (usedW x wt)).d = ((pte x).d || wt) := by
  unfold usedW
  cases wt
  · have := pte_or (x := x) (t := 32) (.inr (.inl rfl))
    simp only [Bool.false_eq_true, if_false, this, Bool.or_false]
    have : (32 : Nat).testBit 6 = false := by decide
    rw [this, Bool.or_false]
    rfl
  · have := pte_or (x := x) (t := 96) (.inr (.inr rfl))
    have e : (x ||| 32) ||| 64 = x ||| 96 := by rw [Nat.or_assoc]; rfl
    simp only [if_true, e, this]
    have : (96 : Nat).testBit 6 = true := by decide
    rw [this, Bool.or_true, Bool.or_true]
theorem dup_last {l : List (Int × Int)} {n : Nat} (hd : dup l = false) (hn : l.length = n + 1) : l.getD n (0, 0) ∉ l.take n := by
  intro hm
  obtain ⟨j, hj, he⟩ := List.getElem_of_mem hm
  rw [List.length_take] at hj
  rw [List.getElem_take] at he
  have hjn : j < n := by omega
  unfold dup at hd
  have h1 := List.any_eq_false.1 hd n (by simp [hn])
  apply h1
  unfold ahead
  rw [List.any_eq_true]
  refine ⟨j, by simpa using hjn, ?_⟩
  rw [decide_eq_true_iff, ← he]
  simp [List.getD, List.getElem?_eq_getElem (show j < l.length by omega)]
theorem rd_bd {mem : List Nat} {g i : Int} (h : (rd h16 mem g i).isSome = true) : 0 ≤ g ∧ g < 16 ∧ 0 ≤ i ∧ i < 8 := by
  unfold rd at h
  rw [place16] at h
  split at h
  · assumption
  · simp at h

theorem marks_pure {mem : List Nat} {root n kind : Int} {user : Bool} {P : Path} {k : Int} (hl : mem.length = 128) (ho : out (wk (rd h16 mem) h16.length root n kind user) = (P, 0, k)) (wt : Bool) :
    ∃ d2, out (wk (rd h16 (markMem h16 P.ats wt mem)) h16.length root n kind user) = ({ P with dirty := d2 }, 0, 0) ∧ (dup P.ats = false → d2 = (P.dirty || wt)) ∧ (∀ q, q ∈ P.ats → (rd h16 mem q.1 q.2).isSome = true) := by
  obtain ⟨h0, hm, hfr, hP, rfl⟩ := wk_found ho
  rcases steps_forms h0 with ⟨s3, s2, hL, e3, e2, p3, p2, hf⟩ | ⟨s3, s2, s1, hL, e3, e2, e1, p3, p2, p1⟩
  · have n3 : s3.er = none := h0 s3 (by rw [hL]; simp)
    have n2 : s2.er = none := h0 s2 (by rw [hL]; simp)
    have hfold : foldP (stepsFrom (rd h16 mem) n cd0 3 root) = ⟨[(s3.g, s3.i), (s2.g, s2.i)], (s2.e.f : Int), (Rt.all.meet (rtOf s3.e)).meet (rtOf s2.e), s2.e.ps, s2.e.d⟩ := by rw [hL]; rfl
    have hPa : P.ats = [(s3.g, s3.i), (s2.g, s2.i)] := by rw [hP, hfold]; rfl
    have g3 : s3.g = root ∧ s3.i = ix n 3 := by rw [e3]; exact ⟨rfl, rfl⟩
    have g2 : s2.g = (s3.e.f : Int) ∧ s2.i = ix n 2 := by rw [e2]; exact ⟨rfl, rfl⟩
    obtain ⟨x3, hx3⟩ := Option.isSome_iff_exists.1 (stepAt_ok (e3 ▸ n3)).1
    obtain ⟨x2, hx2⟩ := Option.isSome_iff_exists.1 (stepAt_ok (e2 ▸ n2)).1
    obtain ⟨t3, k31, k32, _, _⟩ := mark_some (l := P.ats) (wt := wt) hl hx3 P.ats.length (Nat.le_refl _)
    obtain ⟨t2, k21, k22, _, _⟩ := mark_some (l := P.ats) (wt := wt) hl hx2 P.ats.length (Nat.le_refl _)
    have q3 := stepAt_used (get := rd h16 mem) (get' := rd h16 (markMem h16 P.ats wt mem)) hx3 k32 k31 (e3 ▸ n3)
    have q2 := stepAt_used (get := rd h16 mem) (get' := rd h16 (markMem h16 P.ats wt mem)) hx2 k22 k21 (e2 ▸ n2)
    rw [← e3] at q3
    rw [← e2] at q2
    have hL' := steps_two q3 q2 n3 p3 p2
    have hfold' : foldP (stepsFrom (rd h16 (markMem h16 P.ats wt mem)) n cd0 3 root) = ⟨[(s3.g, s3.i), (s2.g, s2.i)], (s2.e.f : Int), (Rt.all.meet (rtOf s3.e)).meet (rtOf s2.e), s2.e.ps, x2.testBit 6 || t2.testBit 6⟩ := by rw [hL']; rfl
    refine ⟨x2.testBit 6 || t2.testBit 6, ?_, fun hd => ?_, ?_⟩
    · rw [wk_of (by rw [hL']; intro z hz; simp at hz; rcases hz with rfl | rfl <;> assumption) (by rw [hfold']; rw [hfold] at hm; exact hm), hfold']
      rw [hfold] at hP
      rw [hP] at hfr ⊢
      unfold endP at hfr ⊢
      dsimp only at hfr ⊢
      rw [if_neg hfr]
    · have hx' : rd h16 mem s2.g s2.i = some x2 := by rw [g2.1, g2.2]; exact hx2
      have hk' : rd h16 (markMem h16 P.ats wt mem) s2.g s2.i = some (x2 ||| t2) := by rw [g2.1, g2.2]; exact k22
      have hlast := mark_last (l := P.ats) (wt := wt) hl hx' (n := 1) (by rw [hPa]; rfl) (by rw [hPa]; rfl) (by have := dup_last hd (n := 1) (by rw [hPa]; rfl); rw [hPa] at this ⊢; exact this)
      have hb : (pte (x2 ||| t2)).d = ((pte x2).d || wt) := by
        have : some (x2 ||| t2) = some (usedW x2 wt) := hk'.symm.trans hlast
        rw [Option.some.inj this, usedW_d]
      rw [pte_or k21] at hb
      have hPd : P.dirty = (pte x2).d := by
        rw [hP, hfold]; unfold endP; dsimp only; rw [e2]; unfold stepAt; rw [hx2]; rfl
      rw [hPd]
      exact hb
    · intro q hq
      rw [hPa] at hq
      simp at hq
      rcases hq with rfl | rfl
      · rw [g3.1, g3.2]; exact (stepAt_ok (e3 ▸ n3)).1
      · rw [g2.1, g2.2]; exact (stepAt_ok (e2 ▸ n2)).1
  · have n3 : s3.er = none := h0 s3 (by rw [hL]; simp)
    have n2 : s2.er = none := h0 s2 (by rw [hL]; simp)
    have n1 : s1.er = none := h0 s1 (by rw [hL]; simp)
    have hfold : foldP (stepsFrom (rd h16 mem) n cd0 3 root) = ⟨[(s3.g, s3.i), (s2.g, s2.i), (s1.g, s1.i)], (s1.e.f : Int), ((Rt.all.meet (rtOf s3.e)).meet (rtOf s2.e)).meet (rtOf s1.e), s1.e.ps, s1.e.d⟩ := by rw [hL]; rfl
    have hPa : P.ats = [(s3.g, s3.i), (s2.g, s2.i), (s1.g, s1.i)] := by rw [hP, hfold]; rfl
    have g3 : s3.g = root ∧ s3.i = ix n 3 := by rw [e3]; exact ⟨rfl, rfl⟩
    have g2 : s2.g = (s3.e.f : Int) ∧ s2.i = ix n 2 := by rw [e2]; exact ⟨rfl, rfl⟩
    have g1 : s1.g = (s2.e.f : Int) ∧ s1.i = ix n 1 := by rw [e1]; exact ⟨rfl, rfl⟩
    obtain ⟨x3, hx3⟩ := Option.isSome_iff_exists.1 (stepAt_ok (e3 ▸ n3)).1
    obtain ⟨x2, hx2⟩ := Option.isSome_iff_exists.1 (stepAt_ok (e2 ▸ n2)).1
    obtain ⟨x1, hx1⟩ := Option.isSome_iff_exists.1 (stepAt_ok (e1 ▸ n1)).1
    obtain ⟨t3, k31, k32, _, _⟩ := mark_some (l := P.ats) (wt := wt) hl hx3 P.ats.length (Nat.le_refl _)
    obtain ⟨t2, k21, k22, _, _⟩ := mark_some (l := P.ats) (wt := wt) hl hx2 P.ats.length (Nat.le_refl _)
    obtain ⟨t1, k11, k12, _, _⟩ := mark_some (l := P.ats) (wt := wt) hl hx1 P.ats.length (Nat.le_refl _)
    have q3 := stepAt_used (get := rd h16 mem) (get' := rd h16 (markMem h16 P.ats wt mem)) hx3 k32 k31 (e3 ▸ n3)
    have q2 := stepAt_used (get := rd h16 mem) (get' := rd h16 (markMem h16 P.ats wt mem)) hx2 k22 k21 (e2 ▸ n2)
    have q1 := stepAt_used (get := rd h16 mem) (get' := rd h16 (markMem h16 P.ats wt mem)) hx1 k12 k11 (e1 ▸ n1)
    rw [← e3] at q3
    rw [← e2] at q2
    rw [← e1] at q1
    have hL' := steps_three q3 q2 q1 n3 p3 n2 p2
    have hfold' : foldP (stepsFrom (rd h16 (markMem h16 P.ats wt mem)) n cd0 3 root) = ⟨[(s3.g, s3.i), (s2.g, s2.i), (s1.g, s1.i)], (s1.e.f : Int), ((Rt.all.meet (rtOf s3.e)).meet (rtOf s2.e)).meet (rtOf s1.e), s1.e.ps, x1.testBit 6 || t1.testBit 6⟩ := by rw [hL']; rfl
    refine ⟨x1.testBit 6 || t1.testBit 6, ?_, fun hd => ?_, ?_⟩
    · rw [wk_of (by rw [hL']; intro z hz; simp at hz; rcases hz with rfl | rfl | rfl <;> assumption) (by rw [hfold']; rw [hfold] at hm; exact hm), hfold']
      rw [hfold] at hP
      rw [hP] at hfr ⊢
      unfold endP at hfr ⊢
      dsimp only at hfr ⊢
      rw [if_neg hfr]
    · have hx' : rd h16 mem s1.g s1.i = some x1 := by rw [g1.1, g1.2]; exact hx1
      have hk' : rd h16 (markMem h16 P.ats wt mem) s1.g s1.i = some (x1 ||| t1) := by rw [g1.1, g1.2]; exact k12
      have hlast := mark_last (l := P.ats) (wt := wt) hl hx' (n := 2) (by rw [hPa]; rfl) (by rw [hPa]; rfl) (by have := dup_last hd (n := 2) (by rw [hPa]; rfl); rw [hPa] at this ⊢; exact this)
      have hb : (pte (x1 ||| t1)).d = ((pte x1).d || wt) := by
        have : some (x1 ||| t1) = some (usedW x1 wt) := hk'.symm.trans hlast
        rw [Option.some.inj this, usedW_d]
      rw [pte_or k11] at hb
      have hPd : P.dirty = (pte x1).d := by
        rw [hP, hfold]; unfold endP; dsimp only; rw [e1]; unfold stepAt; rw [hx1]; rfl
      rw [hPd]
      exact hb
    · intro q hq
      rw [hPa] at hq
      simp at hq
      rcases hq with rfl | rfl | rfl
      · rw [g3.1, g3.2]; exact (stepAt_ok (e3 ▸ n3)).1
      · rw [g2.1, g2.2]; exact (stepAt_ok (e2 ▸ n2)).1
      · rw [g1.1, g1.2]; exact (stepAt_ok (e1 ▸ n1)).1
/-- does one of the first m places lie at word i? -/
def hasW (l : List (Int × Int)) (i : Nat) (m : Nat) : Bool := (List.range m).any fun t => decide (8 * (l.getD t (0, 0)).1 + (l.getD t (0, 0)).2 = (i : Int))
theorem hasW_succ (l : List (Int × Int)) (i m : Nat) : hasW l i (m + 1) = (hasW l i m || decide (8 * (l.getD m (0, 0)).1 + (l.getD m (0, 0)).2 = (i : Int))) := by
  unfold hasW; rw [List.range_succ, List.any_append]; simp
theorem rd_word {mem : List Nat} (hl : mem.length = 128) {i : Nat} (hi : i < 128) : rd h16 mem ((i / 8 : Nat) : Int) ((i % 8 : Nat) : Int) = some (mem.getD i 0) := by
  unfold rd
  rw [place16, if_pos ⟨by omega, by omega, by omega, by omega⟩]
  simp only [Option.bind_some, Int.toNat_natCast]
  rw [show 8 * (i / 8) + i % 8 = i by omega]
  rw [List.getD, List.getElem?_eq_getElem (by omega)]; rfl
theorem andNot_or {x t : Nat} (ht : tok t) (hx : x < 2 ^ 64) : ∃ z : Int, bits .andNot .u64 ((x ||| t : Nat) : Int) 96 = z ∧ bits .andNot .u64 (x : Int) 96 = z ∧ bits .and .u64 ((x ||| t : Nat) : Int) (x : Int) = (x : Int) := by
  have ht2 : t < 2 ^ 64 := by rcases ht with rfl | rfl | rfl <;> decide
  have hxt : x ||| t < 2 ^ 64 := Nat.or_lt_two_pow hx ht2
  refine ⟨_, u64_andNot_nat (x ||| t) 96 hxt (by decide), ?_, ?_⟩
  · rw [show (96 : Int) = ((96 : Nat) : Int) from rfl, u64_andNot_nat x 96 hx (by decide)]
    congr 1
    rw [Nat.and_or_distrib_right]
    have : t &&& (18446744073709551615 - 96) = 0 := by rcases ht with rfl | rfl | rfl <;> decide
    rw [this, Nat.or_zero]
  · rw [u64_and_nat (x ||| t) x hxt hx]
    congr 1
    refine Nat.eq_of_testBit_eq fun j => ?_
    rw [Nat.testBit_and, Nat.testBit_or]
    cases x.testBit j <;> simp
theorem marks_word {mem : List Nat} (hl : mem.length = 128) (hbd : ∀ v, v ∈ mem → v < 2 ^ 64) (l : List (Int × Int)) (wt : Bool) (i : Nat) (hi : i < 128) :
    (markMem h16 l wt mem).getD i 0 = mem.getD i 0 ∨ (hasW l i l.length = true ∧ ∃ z : Int, bits .andNot .u64 (((markMem h16 l wt mem).getD i 0 : Nat) : Int) 96 = z ∧ bits .andNot .u64 ((mem.getD i 0 : Nat) : Int) 96 = z ∧ bits .and .u64 (((markMem h16 l wt mem).getD i 0 : Nat) : Int) ((mem.getD i 0 : Nat) : Int) = ((mem.getD i 0 : Nat) : Int)) := by
  obtain ⟨t, h1, h2, h3, h4⟩ := mark_some (l := l) (wt := wt) hl (rd_word hl hi) l.length (Nat.le_refl _)
  have h5 := rd_word (mem := markMem h16 l wt mem) (by unfold markMem; rw [markTo_len, hl]) hi
  have h6 : (markMem h16 l wt mem).getD i 0 = mem.getD i 0 ||| t := Option.some.inj (h5.symm.trans h2)
  rw [h6]
  by_cases hm : (((i / 8 : Nat) : Int), ((i % 8 : Nat) : Int)) ∈ l
  · right
    refine ⟨?_, andNot_or h1 (hbd _ ?_)⟩
    · unfold hasW
      rw [List.any_eq_true]
      obtain ⟨j, hj, he⟩ := List.getElem_of_mem hm
      refine ⟨j, by simpa using hj, ?_⟩
      rw [decide_eq_true_iff]
      simp only [List.getD, List.getElem?_eq_getElem hj, Option.getD_some, he]
      omega
    · rw [List.getD, List.getElem?_eq_getElem (by omega), Option.getD_some]; exact List.getElem_mem _
  · left
    rw [h4 (by rw [List.take_length]; exact hm), Nat.or_zero]
theorem marks_used {mem : List Nat} (hl : mem.length = 128) (l : List (Int × Int)) (wt : Bool) (hin : ∀ q, q ∈ l → (rd h16 mem q.1 q.2).isSome = true) :
    allIn h16 mem l = true ∧ l.any (unused h16 (markMem h16 l wt mem)) = false := by
  constructor
  · unfold allIn
    rw [Bool.not_eq_true', List.any_eq_false]
    intro q hq
    have := hin q hq
    cases h : rd h16 mem q.1 q.2 with
    | none => rw [h] at this; cases this
    | some v => simp
  · rw [List.any_eq_false]
    intro q hq
    obtain ⟨x, hx⟩ := Option.isSome_iff_exists.1 (hin q hq)
    obtain ⟨t, h1, h2, h3, h4⟩ := mark_some (l := l) (wt := wt) hl hx l.length (Nat.le_refl _)
    have ht := h3 (by rw [List.take_length]; exact hq)
    unfold unused
    have h2' : rd h16 (markMem h16 l wt mem) q.1 q.2 = some (x ||| t) := h2
    rw [h2']
    dsimp only
    rw [pte_or h1]
    rcases h1 with rfl | rfl | rfl
    · exact absurd rfl ht
    · have : (32 : Nat).testBit 5 = true := by decide
      simp [this]
    · have : (96 : Nat).testBit 5 = true := by decide
      simp [this]
end Go.Proofs.YtgaififhhffpfaaGreatDoor
