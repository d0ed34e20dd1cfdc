/- What a path says of its entries: plain lemmas. -/
import Derived.Test.YtlldbfpccdmclaaDoorLargeP
import Derived.Test.YtlldbfpccdmclaaDoorRefE
namespace Go.Proofs.YtlldbfpccdmclaaDoor
open Go.RowKit

def pte0 : Pte := ⟨false, false, false, false, false, false, false, false, 0⟩
/-- where the walk stands behind j entries -/
def frm (root : Int) (es : List Pte) : Nat → Int
  | 0 => root
  | j + 1 => ((es.getD j pte0).f : Int)
/-- the rights of the first j entries -/
def alm (es : List Pte) : Nat → Rt
  | 0 => Rt.all
  | j + 1 => (alm es j).meet (rtOf (es.getD j pte0))
theorem under_meet_left (a b c : Rt) : under ((a.meet b).meet c) a = true ∧ under ((a.meet b).meet c) b = true ∧ under ((a.meet b).meet c) c = true := by
  obtain ⟨a1, a2, a3⟩ := a
  obtain ⟨b1, b2, b3⟩ := b
  obtain ⟨c1, c2, c3⟩ := c
  unfold under Rt.meet
  dsimp only
  refine ⟨?_, ?_, ?_⟩ <;> (cases a1 <;> cases a2 <;> cases a3 <;> cases b1 <;> cases b2 <;> cases b3 <;> cases c1 <;> cases c2 <;> cases c3 <;> rfl)
theorem within_pure {mem : List Nat} {root n kind : Int} {user : Bool} {P : Path} {k : Int} (hbd : ∀ v, v ∈ mem → v < 2 ^ 64) (ho : out (wk (rd h16 mem) h16.length root n kind user) = (P, 0, k)) :
    k = 0 ∧ ∃ es : List Pte, ((P.large = true ∧ P.ats.length = 2) ∨ (P.large = false ∧ P.ats.length = 3)) ∧
      (∀ j, j < P.ats.length → P.ats.getD j (0, 0) = (frm root es j, ix n (3 - (j : Int))) ∧ (∃ v, rd h16 mem (frm root es j) (ix n (3 - (j : Int))) = some v ∧ v < 2 ^ 64 ∧ pte v = es.getD j pte0) ∧ (es.getD j pte0).p = true ∧ (es.getD j pte0).bad = false ∧ under P.r (rtOf (es.getD j pte0)) = true) ∧
      alm es P.ats.length = P.r ∧ P.g = frm root es P.ats.length + (if P.large then n % 8 else 0) ∧ 0 ≤ P.g ∧ P.g < 16 ∧ may P.r kind user = true := by
  obtain ⟨h0, hm, hfr, hP, rfl⟩ := wk_found ho
  refine ⟨rfl, ?_⟩
  have hrdv : ∀ g i v, rd h16 mem g i = some v → v < 2 ^ 64 := fun g i v h => by have := rd_lt (hosts := h16) hbd g i; rw [h] at this; exact this
  have hfr16 : ((h16.length : Nat) : Int) = 16 := rfl
  rw [hfr16] at hfr
  have hst : ∀ lv g, (stepAt (rd h16 mem) n cd0 lv g).er = none → (∃ v, rd h16 mem g (ix n lv) = some v ∧ v < 2 ^ 64 ∧ pte v = (stepAt (rd h16 mem) n cd0 lv g).e) ∧ (stepAt (rd h16 mem) n cd0 lv g).e.p = true ∧ (stepAt (rd h16 mem) n cd0 lv g).e.bad = false := by
    intro lv g h
    obtain ⟨a1, a2, a3⟩ := stepAt_ok h
    obtain ⟨v, hv⟩ := Option.isSome_iff_exists.1 a1
    refine ⟨⟨v, hv, hrdv _ _ _ hv, by unfold stepAt; rw [hv]; rfl⟩, a2, ?_⟩
    unfold badE at a3
    revert a3
    cases (stepAt (rd h16 mem) n cd0 lv g).e.bad <;> simp
  rcases steps_forms h0 with ⟨s3, s2, hL, e3, e2, p3, p2, hf⟩ | ⟨s3, s2, s1, hL, e3, e2, e1, p3, p2, p1⟩
  · have n3 : s3.er = none := h0 s3 (by rw [hL]; simp)
    have n2 : s2.er = none := h0 s2 (by rw [hL]; simp)
    have hfold : foldP (stepsFrom (rd h16 mem) n cd0 3 root) = ⟨[(s3.g, s3.i), (s2.g, s2.i)], (s2.e.f : Int), (Rt.all.meet (rtOf s3.e)).meet (rtOf s2.e), s2.e.ps, s2.e.d⟩ := by rw [hL]; rfl
    have hP' : P = ⟨[(s3.g, s3.i), (s2.g, s2.i)], (s2.e.f : Int) + n % 8, (Rt.all.meet (rtOf s3.e)).meet (rtOf s2.e), true, s2.e.d⟩ := by
      rw [hP, hfold]; unfold endP; dsimp only; rw [p2, if_pos rfl, ix_1]
    have t3 := hst 3 root (e3 ▸ n3)
    have t2 := hst 2 (s3.e.f : Int) (e2 ▸ n2)
    rw [← e3] at t3
    rw [← e2] at t2
    have g3 : s3.g = root ∧ s3.i = ix n 3 := by rw [e3]; exact ⟨rfl, rfl⟩
    have g2 : s2.g = (s3.e.f : Int) ∧ s2.i = ix n 2 := by rw [e2]; exact ⟨rfl, rfl⟩
    rw [hfold] at hm
    dsimp only at hm
    rw [hP'] at hfr ⊢
    dsimp only at hfr ⊢
    have hu := under_meet_left Rt.all (rtOf s3.e) (rtOf s2.e)
    refine ⟨[s3.e, s2.e], .inl ⟨rfl, rfl⟩, ?_, rfl, rfl, by omega, by omega, hm⟩
    intro j hj
    match j, hj with
    | 0, _ => exact ⟨by show (s3.g, s3.i) = _; rw [g3.1, g3.2]; rfl, t3.1, t3.2.1, t3.2.2, hu.2.1⟩
    | 1, _ => exact ⟨by show (s2.g, s2.i) = _; rw [g2.1, g2.2]; rfl, t2.1, t2.2.1, t2.2.2, hu.2.2⟩
    | j + 2, h => simp at h; omega
  · have n3 : s3.er = none := h0 s3 (by rw [hL]; simp)
    have n2 : s2.er = none := h0 s2 (by rw [hL]; simp)
    have n1 : s1.er = none := h0 s1 (by rw [hL]; simp)
    have hfold : foldP (stepsFrom (rd h16 mem) n cd0 3 root) = ⟨[(s3.g, s3.i), (s2.g, s2.i), (s1.g, s1.i)], (s1.e.f : Int), ((Rt.all.meet (rtOf s3.e)).meet (rtOf s2.e)).meet (rtOf s1.e), s1.e.ps, s1.e.d⟩ := by rw [hL]; rfl
    have hP' : P = ⟨[(s3.g, s3.i), (s2.g, s2.i), (s1.g, s1.i)], (s1.e.f : Int), ((Rt.all.meet (rtOf s3.e)).meet (rtOf s2.e)).meet (rtOf s1.e), false, s1.e.d⟩ := by
      rw [hP, hfold]; unfold endP; dsimp only; rw [p1]; rfl
    have t3 := hst 3 root (e3 ▸ n3)
    have t2 := hst 2 (s3.e.f : Int) (e2 ▸ n2)
    have t1 := hst 1 (s2.e.f : Int) (e1 ▸ n1)
    rw [← e3] at t3
    rw [← e2] at t2
    rw [← e1] at t1
    have g3 : s3.g = root ∧ s3.i = ix n 3 := by rw [e3]; exact ⟨rfl, rfl⟩
    have g2 : s2.g = (s3.e.f : Int) ∧ s2.i = ix n 2 := by rw [e2]; exact ⟨rfl, rfl⟩
    have g1 : s1.g = (s2.e.f : Int) ∧ s1.i = ix n 1 := by rw [e1]; exact ⟨rfl, rfl⟩
    rw [hfold] at hm
    dsimp only at hm
    rw [hP'] at hfr ⊢
    dsimp only at hfr ⊢
    have hu := under_meet_left (Rt.all.meet (rtOf s3.e)) (rtOf s2.e) (rtOf s1.e)
    have hu3 : under (((Rt.all.meet (rtOf s3.e)).meet (rtOf s2.e)).meet (rtOf s1.e)) (rtOf s3.e) = true := by
      unfold under Rt.meet Rt.all
      dsimp only
      cases (rtOf s3.e).w <;> cases (rtOf s3.e).u <;> cases (rtOf s3.e).x <;> simp
    refine ⟨[s3.e, s2.e, s1.e], .inr ⟨rfl, rfl⟩, ?_, rfl, by simp [frm], by omega, by omega, hm⟩
    intro j hj
    match j, hj with
    | 0, _ => exact ⟨by show (s3.g, s3.i) = _; rw [g3.1, g3.2]; rfl, t3.1, t3.2.1, t3.2.2, hu3⟩
    | 1, _ => exact ⟨by show (s2.g, s2.i) = _; rw [g2.1, g2.2]; rfl, t2.1, t2.2.1, t2.2.2, hu.2.1⟩
    | 2, _ => exact ⟨by show (s1.g, s1.i) = _; rw [g1.1, g1.2]; rfl, t1.1, t1.2.1, t1.2.2, hu.2.2⟩
    | j + 3, h => simp at h; omega
end Go.Proofs.YtlldbfpccdmclaaDoor
