/- GuardStill's plain law: what the guard leaves alone. -/
import Derived.Test.YtglohconhbcchaaGreatDoorGo
import Derived.Test.YtglohconhbcchaaGreatDoorGb
namespace Go.Proofs.YtglohconhbcchaaGreatDoor
open Go.RowKit Go.Shelf Go.Maps

theorem foldl_far {α : Type} {P : Pm} (f : GS → α → GS) (hi : ∀ G a, GInv P G → GInv P (f G a)) (hf : ∀ G a, GInv P G → Far P G.s (f G a).s) : ∀ (l : List α) (G : GS), GInv P G → Far P G.s (l.foldl f G).s
  | [], _, _ => Far.refl _ _
  | a :: r, G, h => (hf G a h).trans (foldl_far f hi hf r (f G a) (hi G a h))
theorem gzap_far {P : Pm} {G : GS} (h : GInv P G) (p i : Int) : Far P G.s (gzap G p i).2.s := by
  unfold gzap
  simp only
  split
  · exact Far.clear h.s _ _
  · exact Far.refl _ _
theorem gword_far {P : Pm} {G : GS} (h : GInv P G) (g i : Int) : Far P G.s (gword G g i).s :=
  foldl_far _ (fun _ _ h => gzap_inv h _ _) (fun _ _ h => gzap_far h _ _) _ _ h
theorem forbid1_far {P : Pm} {G : GS} (h : GInv P G) (g : Int) (a : Int × Int) : Far P G.s (forbid1 P g G a).s := by
  unfold forbid1
  simp only
  split
  · exact Far.leaf h.s _ _ _ _ _ _
  · exact Far.refl _ _
theorem gforbid_far {P : Pm} {G : GS} (h : GInv P G) (g : Int) : Far P G.s (gforbid P G g).s :=
  foldl_far _ (fun _ _ h => forbid1_inv h g _) (fun _ _ h => forbid1_far h g _) _ _ h
theorem look1_far {P : Pm} {G : GS} (h : GInv P G) (g p : Int) (i : Nat) : Far P G.s (look1 P g p G i).s := by
  unfold look1
  simp only
  split
  · exact Far.clear h.s _ _
  · exact Far.refl _ _
theorem lookP_far {P : Pm} {G : GS} (h : GInv P G) (g p : Int) : Far P G.s (lookP P g G p).s :=
  foldl_far _ (fun _ _ h => look1_inv h g p _) (fun _ _ h => look1_far h g p _) _ _ h
theorem glook_far {P : Pm} {G : GS} (h : GInv P G) (g : Int) : Far P G.s (glook P G g).2.s := by
  unfold glook
  split
  · have h1 := gtight_inv h g
    have h2 := gforbid_inv h1 g
    exact (gforbid_far h1 g).trans (foldl_far (lookP P g) (fun _ _ h => lookP_inv h g _) (fun _ _ h => lookP_far h g _) _ _ h2)
  · exact Far.refl _ _
theorem gall_far {P : Pm} {G : GS} (h : GInv P G) : Far P G.s (gall P G).s :=
  foldl_far _ (fun _ g h => glook_inv h g) (fun _ g h => glook_far h g) _ _ h
theorem gdrop_far {P : Pm} {G : GS} (h : GInv P G) (p : Int) : Far P G.s (gdrop G p).2.s := by
  unfold gdrop
  cases hk : skey G.s.ps p with
  | none => exact Far.refl _ _
  | some k =>
    simp only
    by_cases h0 : k.ro = 0
    · simp only [h0, if_true]; exact Far.drop h.s p
    · simp only [h0, if_false]; exact Far.drop h.s p
theorem gloosen_far {P : Pm} {G : GS} (g : Int) : Far P G.s (gloosen G g).2.s := by
  unfold gloosen
  split <;> exact Far.refl _ _
theorem foldl_farS {α : Type} {P : Pm} (f : GS → α → GS) (hi : ∀ G a, SInv P G.s → SInv P (f G a).s) (hf : ∀ G a, SInv P G.s → Far P G.s (f G a).s) : ∀ (l : List α) (G : GS), SInv P G.s → Far P G.s (l.foldl f G).s
  | [], _, _ => Far.refl _ _
  | a :: r, G, h => (hf G a h).trans (foldl_farS f hi hf r (f G a) (hi G a h))
theorem gforbid_farS {P : Pm} {G : GS} (h : SInv P G.s) (g : Int) : Far P G.s (gforbid P G g).s := by
  refine foldl_farS (forbid1 P g) (fun G a h => ?_) (fun G a h => ?_) _ _ h
  · unfold forbid1
    simp only
    split
    · exact sleaf_inv h _ _ _ _ _
    · exact h
  · unfold forbid1
    simp only
    split
    · exact Far.leaf h _ _ _ _ _ _
    · exact Far.refl _ _
theorem gmake1_far {P : Pm} {G : GS} (h : GInv P G) (k : Key) : Far P G.s (gmake1 P G k).s := by
  unfold gmake1
  split
  · exact glook_far h _
  · exact Far.refl _ _
theorem gmake_far {P : Pm} {G : GS} (h : GInv P G) (k : Key) : Far P G.s (gmake P G k).2.s := by
  have h1 := gmake1_inv h k
  have f1 := gmake1_far h k
  have hI := gmake_inv h k
  unfold gmake at hI ⊢
  cases hs : sfind G.s.ps k with
  | some p => exact Far.refl _ _
  | none =>
    rw [hs] at hI
    simp only at hI ⊢
    cases hm : smake P (gmake1 P G k).s k with
    | none => exact f1
    | some t =>
      obtain ⟨p, S⟩ := t
      rw [hm] at hI
      simp only at hI ⊢
      have f2 := f1.trans (Far.make h1.s hm)
      split
      · exact f2.trans (gforbid_farS (G := { gmake1 P G k with s := S }) (smake_inv h1.s hm) k.g)
      · exact f2
theorem gdo_far {P : Pm} {G : GS} (h : GInv P G) (o : Opg) (h12 : o.k ≠ 12) : Far P G.s (gdo P G o).2.s := by
  unfold gdo
  by_cases c0 : o.k = 0 ∨ o.k = 1
  · rw [if_pos c0]; exact gmake_far h _
  rw [if_neg c0]
  by_cases c1 : o.k = 2 ∨ o.k = 3
  · rw [if_pos c1]; exact Far.child h.s _ _ _ _
  rw [if_neg c1]
  by_cases c2 : o.k = 4 ∨ o.k = 5
  · rw [if_pos c2]; exact Far.leaf h.s _ _ _ _ _ _
  rw [if_neg c2]
  by_cases c3 : o.k = 6
  · rw [if_pos c3]; exact gzap_far h _ _
  rw [if_neg c3]
  by_cases c4 : o.k = 7
  · rw [if_pos c4]; exact gword_far h _ _
  rw [if_neg c4]
  by_cases c5 : o.k = 8
  · rw [if_pos c5]; exact gloosen_far _
  rw [if_neg c5]
  by_cases c6 : o.k = 9
  · rw [if_pos c6]; exact glook_far h _
  rw [if_neg c6]
  by_cases c7 : o.k = 10
  · rw [if_pos c7]; exact gall_far h
  rw [if_neg c7]
  by_cases c8 : o.k = 11
  · rw [if_pos c8]; exact gdrop_far h _
  rw [if_neg c8]
  rw [if_neg h12]
  split
  · exact Far.refl _ _
  · exact Far.refl _ _
theorem fwords_far {S S' : SS} (h : Far P24 S S') (f : Nat) (hf : f < 4 ∨ 12 ≤ f) : fwords S'.mem f = fwords S.mem f := by
  refine List.ext_getElem? fun i => ?_
  unfold fwords
  simp only [List.getElem?_take, List.getElem?_drop]
  split
  · refine h _ ?_
    show f * 8 + i < 8 * 4 ∨ 8 * (4 + 8) ≤ f * 8 + i
    omega
  · rfl
/-- the law's run: all but the writes into the guest -/
def srun (P : Pm) (G : GS) (l : List Opg) : GS := l.foldl (fun G o => if o.k = 12 then G else (gdo P G o).2) G
theorem srun_inv {P : Pm} {G : GS} (h : GInv P G) (l : List Opg) : GInv P (srun P G l) := foldl_keep (GInv P) _ (fun G o h => by
  split
  · exact h
  · exact gdo_inv h o) l G h
theorem srun_far {P : Pm} {G : GS} (h : GInv P G) (l : List Opg) : Far P G.s (srun P G l).s :=
  foldl_far _ (fun G o h => by split; exact h; exact gdo_inv h o) (fun G o h => by split; exact Far.refl _ _; exact gdo_far h o (by assumption)) l G h
end Go.Proofs.YtglohconhbcchaaGreatDoor
