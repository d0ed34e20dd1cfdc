/- An access to a page of which nothing is known, in plain Lean. -/
import Derived.Test.YtgaififhhffpfaaGreatDoorAgainP
import Derived.Test.YtgaififhhffpfaaGreatDoorMarksP
namespace Go.Proofs.YtgaififhhffpfaaGreatDoor
open Go.RowKit Go.Shelf

theorem mark_read {l : List (Int × Int)} {mem : List Nat} (hl : mem.length = 128) {g i : Int} {x : Nat} (h : rd h16 mem g i = some x) (k : Nat) (hk : k ≤ l.length) :
    rd h16 (markTo h16 l false mem k) g i = some (if (g, i) ∈ l.take k then usedW x false else x) := by
  induction k with
  | zero => simpa [markTo] using h
  | succ k ih =>
    have ih := ih (by omega)
    have hkl : k < l.length := by omega
    have htake : l.take (k + 1) = l.take k ++ [l.getD k (0, 0)] := by
      rw [List.take_add_one, List.getElem?_eq_getElem hkl]; simp [List.getD, List.getElem?_eq_getElem hkl]
    rw [markTo]
    obtain ⟨⟨a, b⟩, hq⟩ : ∃ q, l.getD k (0, 0) = q := ⟨_, rfl⟩
    rw [hq] at htake ⊢
    rw [rd_wr (by rw [markTo_len, hl]), htake]
    by_cases he : a = g ∧ b = i
    · obtain ⟨rfl, rfl⟩ := he
      have hm : (a, b) ∈ l.take k ++ [(a, b)] := by simp
      rw [if_pos ⟨rfl, rfl, by rw [ih]; rfl⟩, ih, if_pos hm]
      simp only [Bool.false_and, Option.getD_some]
      split
      · unfold usedW; simp [Nat.or_assoc]
      · rfl
    · rw [if_neg (fun hc => he ⟨hc.1, hc.2.1⟩), ih]
      have : (g, i) ∈ l.take k ++ [(a, b)] ↔ (g, i) ∈ l.take k := by
        rw [List.mem_append]
        refine ⟨fun h => h.resolve_right (fun h => ?_), .inl⟩
        simp at h; exact he ⟨h.1.symm, h.2.symm⟩
      simp only [this]
/-- a word behind a Mark that is not written -/
theorem markM_read {mem : List Nat} (hl : mem.length = 128) (P : Path) {g i : Int} {x : Nat} (h : rd h16 mem g i = some x) :
    rd h16 (markM mem P false) g i = some x ∨ ((g, i) ∈ P.ats ∧ rd h16 (markM mem P false) g i = some (usedW x false)) := by
  unfold markM
  split
  · have := mark_read (l := P.ats) hl h P.ats.length (Nat.le_refl _)
    unfold markMem
    rw [List.take_length] at this
    by_cases hm : (g, i) ∈ P.ats
    · rw [if_pos hm] at this; exact .inr ⟨hm, this⟩
    · rw [if_neg hm] at this; exact .inl this
  · exact .inl h
/-- does one of the first m places be this one? -/
def hasP (l : List (Int × Int)) (g i : Int) (m : Nat) : Bool := (List.range m).any fun t => decide ((l.getD t (0, 0)).1 = g) && decide ((l.getD t (0, 0)).2 = i)
theorem hasP_succ (l : List (Int × Int)) (g i : Int) (m : Nat) : hasP l g i (m + 1) = (hasP l g i m || (decide ((l.getD m (0, 0)).1 = g) && decide ((l.getD m (0, 0)).2 = i))) := by
  unfold hasP; rw [List.range_succ, List.any_append]; simp
theorem hasP_mem {l : List (Int × Int)} {g i : Int} (h : (g, i) ∈ l) : hasP l g i l.length = true := by
  unfold hasP
  rw [List.any_eq_true]
  obtain ⟨j, hj, he⟩ := List.getElem_of_mem h
  refine ⟨j, by simpa using hj, ?_⟩
  simp only [List.getD, List.getElem?_eq_getElem hj, Option.getD_some, he]
  simp
/-- what ModelFresh asks, at a page of which nothing is known -/
theorem fresh_bad {S : S10} (hG : Good S) {n w ad x : Nat} {kind : Int} {user : Bool} {P : Path} {hw k : Int} (hj : ad < 2 ^ 64 ∧ pageOf ad = n ∧ wordOf ad = w ∧ ad % 8 = 0 ∧ wideOf ad = ad)
    (ho : out (wk (rd h16 S.mem) h16.length S.root n kind user) = (P, hw, k)) (hh : hw ≠ 0) :
    accS (dropS S n) kind user ad x = (⟨hw, 0, k, ad⟩, ⟨S.mem, S.root, tdrop (tdrop S.l 0 n) 0 n⟩) ∧ tget (tdrop (tdrop S.l 0 n) 0 n) 0 n = none := by
  have := acc_miss (S := dropS S n) (a := ad) (kind := kind) (user := user) (P := P) (hw := hw) (k := k) x hj.2.2.2.1 hj.2.2.2.2 (by rw [hj.2.1]; exact tget_drop hG.one 0 n) (by rw [hj.2.1]; exact ho)
  rw [if_neg hh, hj.2.1] at this
  exact ⟨this, tget_drop (tdrop_pw hG.one _ _) _ _⟩
theorem fresh_ok {S : S10} (hG : Good S) (hl : S.mem.length = 128) {n w ad x : Nat} {kind : Int} {user : Bool} {P : Path} {k : Int} (hj : ad < 2 ^ 64 ∧ pageOf ad = n ∧ wordOf ad = w ∧ ad % 8 = 0 ∧ wideOf ad = ad)
    (hw' : w < 8) (ho : out (wk (rd h16 S.mem) h16.length S.root n kind user) = (P, 0, k)) :
    ∃ y, rd h16 S.mem P.g (w : Int) = some y ∧ ∃ o S', accS (dropS S n) kind user ad x = (o, S') ∧ tget S'.l 0 n = some (foundH n P (kind == 1)) ∧
      ((kind = 1 ∧ o = ⟨0, 0, 0, 0⟩ ∧ rd h16 S'.mem P.g w = some x) ∨ (kind ≠ 1 ∧ (rd h16 S'.mem P.g w).isSome = true ∧ (o = ⟨0, y, 0, 0⟩ ∨ ((P.g, (w : Int)) ∈ P.ats ∧ o = ⟨0, usedW y false, 0, 0⟩)))) := by
  have hw : (0 : Int) ≤ (w : Int) ∧ (w : Int) < 8 := ⟨by omega, by omega⟩
  obtain ⟨f0, f1, _⟩ := wk_frame ho
  obtain ⟨y, hy⟩ := Option.isSome_iff_exists.1 (rd_some hl ⟨f0, f1⟩ hw)
  have := acc_miss (S := dropS S n) (a := ad) (kind := kind) (user := user) (P := P) (hw := 0) (k := k) x hj.2.2.2.1 hj.2.2.2.2 (by rw [hj.2.1]; exact tget_drop hG.one 0 n) (by rw [hj.2.1]; exact ho)
  rw [if_pos rfl, hj.2.1, hj.2.2.1] at this
  have hp := tdrop_pw (tdrop_pw hG.one 0 n) 0 n
  by_cases hk : kind = 1
  · subst hk
    rw [if_pos rfl] at this
    exact ⟨y, hy, _, _, this, tget_put hp (foundH n P true), .inl ⟨rfl, rfl, rd_put (markM_len hl P true) ⟨f0, f1⟩ hw x⟩⟩
  · rw [if_neg hk] at this
    have hk' : (kind == 1) = false := beq_eq_false_iff_ne.2 hk
    rw [hk']
    have hm := markM_read hl P hy
    refine ⟨y, hy, _, _, this, tget_put hp (foundH n P false), .inr ⟨hk, ?_, ?_⟩⟩
    · show (rd h16 (markM S.mem P false) P.g w).isSome = true
      exact rd_some (markM_len hl P false) ⟨f0, f1⟩ hw
    · show (⟨0, (rd h16 (markM S.mem P false) P.g w).getD 0, 0, 0⟩ : Ot) = _ ∨ _
      rcases hm with h | ⟨h1, h2⟩
      · rw [h]; exact .inl rfl
      · refine .inr ⟨h1, ?_⟩
        show (⟨0, (rd h16 (markM S.mem P false) P.g w).getD 0, 0, 0⟩ : Ot) = _
        rw [h2]; rfl
end Go.Proofs.YtgaififhhffpfaaGreatDoor
