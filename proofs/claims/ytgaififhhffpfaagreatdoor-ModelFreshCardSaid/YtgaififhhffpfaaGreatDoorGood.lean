/- Laws of what a model knows, in plain Lean. -/
import Derived.Test.YtgaififhhffpfaaGreatDoorMM
import Derived.Test.YtgaififhhffpfaaGreatDoorMovesP
import Derived.Test.YtgaififhhffpfaaGreatDoorLargeP
namespace Go.Proofs.YtgaififhhffpfaaGreatDoor
open Go.RowKit Go.Shelf

/-- two hits of unlike pages -/
def unlike (x y : Hit) : Prop := ¬ (x.asid = y.asid ∧ x.page = y.page)
/-- what is known, as it may be -/
structure Good (S : S10) : Prop where
  one : S.l.Pairwise unlike
  fr : ∀ h, h ∈ S.l → h.asid = 0 ∧ 0 ≤ h.frame ∧ h.frame < 16
theorem ofKey_iff {a p : Int} {h : Hit} : ofKey a p h = true ↔ h.asid = a ∧ h.page = p := by unfold ofKey; simp
theorem eraseP_sub {l : List Hit} {a p : Int} {h : Hit} (hm : h ∈ tdrop l a p) : h ∈ l := List.mem_of_mem_eraseP hm
theorem tget_some {l : List Hit} {a p : Int} {h : Hit} (hg : tget l a p = some h) : h ∈ l ∧ h.asid = a ∧ h.page = p :=
  ⟨List.mem_of_find?_eq_some hg, ofKey_iff.1 (List.find?_some hg)⟩
theorem tget_none {l : List Hit} {a p : Int} (hg : ∀ h, h ∈ l → ¬ (h.asid = a ∧ h.page = p)) : tget l a p = none := by
  unfold tget
  rw [List.find?_eq_none]
  exact fun h hm hk => hg h hm (ofKey_iff.1 hk)
/-- what is dropped is gone -/
theorem tdrop_gone : ∀ {l : List Hit}, l.Pairwise unlike → ∀ (a p : Int) (h : Hit), h ∈ tdrop l a p → ¬ (h.asid = a ∧ h.page = p)
  | [], _, _, _, h, hm => by simp [tdrop] at hm
  | x :: l, hp, a, p, h, hm => by
    rw [List.pairwise_cons] at hp
    unfold tdrop at hm
    by_cases hx : ofKey a p x = true
    · rw [List.eraseP_cons_of_pos hx] at hm
      have hx' := ofKey_iff.1 hx
      intro hh
      exact hp.1 h hm ⟨hx'.1.trans hh.1.symm, hx'.2.trans hh.2.symm⟩
    · rw [List.eraseP_cons_of_neg hx] at hm
      rcases List.mem_cons.1 hm with e | e
      · subst e; exact fun hh => hx (ofKey_iff.2 hh)
      · exact tdrop_gone hp.2 a p h e
theorem tget_drop {l : List Hit} (h : l.Pairwise unlike) (a p : Int) : tget (tdrop l a p) a p = none := tget_none (tdrop_gone h a p)
theorem tdrop_pw {l : List Hit} (h : l.Pairwise unlike) (a p : Int) : (tdrop l a p).Pairwise unlike := h.sublist List.eraseP_sublist
/-- what is put is there -/
theorem tget_put {l : List Hit} (hp : l.Pairwise unlike) (h : Hit) : tget (tput 512 l h) h.asid h.page = some h := by
  unfold tput tget
  rw [List.find?_append]
  have hn : ∀ m, (∀ x, x ∈ m → x ∈ tdrop l h.asid h.page) → List.find? (ofKey h.asid h.page) m = none := fun m hm => by
    rw [List.find?_eq_none]
    exact fun x hx hk => tdrop_gone hp h.asid h.page x (hm x hx) (ofKey_iff.1 hk)
  have hl : List.find? (ofKey h.asid h.page) [h] = some h := by
    rw [List.find?_cons_of_pos]
    exact ofKey_iff.2 ⟨rfl, rfl⟩
  split
  · rw [hn _ fun x hx => List.mem_of_mem_drop hx, hl]; rfl
  · rw [hn _ fun x hx => hx, hl]; rfl
theorem tput_mem {l : List Hit} {h x : Hit} (hm : x ∈ tput 512 l h) : x = h ∨ x ∈ tdrop l h.asid h.page := by
  unfold tput at hm
  rcases List.mem_append.1 hm with e | e
  · right; split at e
    · exact List.mem_of_mem_drop e
    · exact e
  · left; exact List.mem_singleton.1 e
theorem tput_pw {l : List Hit} (hp : l.Pairwise unlike) (h : Hit) : (tput 512 l h).Pairwise unlike := by
  have hd := tdrop_pw hp h.asid h.page
  unfold tput
  rw [List.pairwise_append]
  refine ⟨?_, List.pairwise_singleton _ _, fun x hx y hy => ?_⟩
  · split
    · exact hd.sublist (List.drop_sublist _ _)
    · exact hd
  · obtain rfl := List.mem_singleton.1 hy
    have hx' : x ∈ tdrop l y.asid y.page := by split at hx <;> first | exact List.mem_of_mem_drop hx | exact hx
    exact tdrop_gone hp y.asid y.page x hx'
theorem find_erase {l : List Hit} {a p a' p' : Int} (hne : ¬ (a = a' ∧ p = p')) : (l.eraseP (ofKey a p)).find? (ofKey a' p') = l.find? (ofKey a' p') := by
  induction l with
  | nil => rfl
  | cons x l ih =>
    by_cases hx : ofKey a p x = true
    · rw [List.eraseP_cons_of_pos hx, List.find?_cons_of_neg]
      intro hk
      have h1 := ofKey_iff.1 hx
      have h2 := ofKey_iff.1 hk
      exact hne ⟨h1.1.symm.trans h2.1, h1.2.symm.trans h2.2⟩
    · rw [List.eraseP_cons_of_neg hx]
      by_cases hk : ofKey a' p' x = true
      · rw [List.find?_cons_of_pos hk, List.find?_cons_of_pos hk]
      · rw [List.find?_cons_of_neg hk, List.find?_cons_of_neg hk, ih]
theorem tget_drop_ne {l : List Hit} {p q : Int} (hne : p ≠ q) : tget (tdrop l 0 p) 0 q = tget l 0 q := find_erase fun h => hne h.2
/-- what is put alters nothing of other pages, where there is room -/
theorem tget_put_ne {l : List Hit} {h : Hit} {q : Int} (hne : h.page ≠ q) (hl : l.length < 512) : tget (tput 512 l h) 0 q = tget l 0 q := by
  unfold tput tget
  have hd := tdrop_len l h.asid h.page
  rw [if_neg (by omega), List.find?_append, List.find?_cons_of_neg (by intro hk; exact hne (ofKey_iff.1 hk).2), List.find?_nil, Option.or_none]
  exact find_erase fun e => hne e.2

/-- the frame of what a walk finds -/
theorem wk_frame {get : Int → Int → Option Nat} {root page kind : Int} {user : Bool} {P : Path} {k : Int} (ho : out (wk get h16.length root page kind user) = (P, 0, k)) : 0 ≤ P.g ∧ P.g < 16 ∧ may P.r kind user = true ∧ k = 0 := by
  obtain ⟨h0, hm, hf, hP, hk⟩ := wk_found ho
  have hg : ∀ l : List St, 0 ≤ (foldP l).g := by
    intro l
    have : ∀ (l : List St) (p : Path), 0 ≤ p.g → 0 ≤ (l.foldl Path.step p).g := by
      intro l
      induction l with
      | nil => intro p h; exact h
      | cons a l ih => intro p _; exact ih _ (by unfold Path.step; dsimp only; omega)
    exact this l Path.start (by decide)
  have h16 : (h16.length : Int) = 16 := by decide
  refine ⟨?_, by omega, ?_, hk⟩
  · rw [hP]; unfold endP
    have h1 := hg (stepsFrom get page cd0 3 root)
    have h2 : 0 ≤ ix page 1 := by rw [ix_1]; omega
    split
    · dsimp only; omega
    · exact h1
  · rw [hP]; unfold endP
    split <;> exact hm

theorem Good.drop {S : S10} (h : Good S) (page : Int) : Good (dropS S page) := ⟨tdrop_pw h.one _ _, fun x hx => h.fr x (eraseP_sub hx)⟩
theorem good_put {S : S10} (h : Good S) (mem : List Nat) (root : Int) (x : Hit) (hx : x.asid = 0 ∧ 0 ≤ x.frame ∧ x.frame < 16) : Good ⟨mem, root, tput 512 S.l x⟩ :=
  ⟨tput_pw h.one x, fun y hy => by
    rcases tput_mem hy with e | e
    · subst e; exact hx
    · exact h.fr y (eraseP_sub e)⟩
theorem Good.mem {S : S10} (h : Good S) (mem : List Nat) (root : Int) : Good ⟨mem, root, S.l⟩ := ⟨h.one, h.fr⟩
theorem trans_good {S : S10} (h : Good S) (kind : Int) (user : Bool) (page : Int) (mem : List Nat) : Good ⟨mem, S.root, (transR S.mem S.root S.l kind user page).l⟩ := by
  have hm : Good ⟨mem, S.root, (missR S.mem S.root S.l kind user page (out (wk (rd h16 S.mem) h16.length S.root page kind user))).l⟩ := by
    obtain ⟨⟨P, hw, k⟩, ho⟩ : ∃ o, out (wk (rd h16 S.mem) h16.length S.root page kind user) = o := ⟨_, rfl⟩
    rw [ho]
    unfold missR
    dsimp only
    by_cases h0 : hw = 0
    · subst h0
      rw [if_pos rfl]
      obtain ⟨f0, f1, _⟩ := wk_frame ho
      exact good_put (h.drop page) mem S.root _ ⟨rfl, f0, f1⟩
    · rw [if_neg h0]
      exact (h.drop page).mem mem S.root
  unfold transR
  split
  · split
    · exact h.mem _ _
    · exact hm
  · exact hm
theorem acc_good {S : S10} (h : Good S) (kind : Int) (user : Bool) (a x : Nat) : Good (accS S kind user a x).2 := by
  have ht := fun mem => trans_good h kind user (pageOf a) mem
  unfold accS accR
  dsimp only
  split
  · split
    · split
      · split
        · exact ht _
        · exact ht _
      · exact ht _
    · exact h
  · exact h
theorem find_good {S : S10} (h : Good S) (page : Int) : Good (findS S page) := by
  unfold findS findR
  split
  · exact h
  · split
    · rename_i h0
      split
      · exact h
      · obtain ⟨⟨P, hw, k⟩, ho⟩ : ∃ o, out (wk (rd h16 S.mem) h16.length S.root page 0 false) = o := ⟨_, rfl⟩
        rw [ho] at h0 ⊢
        dsimp only at h0
        subst h0
        obtain ⟨f0, f1, _⟩ := wk_frame ho
        exact good_put h S.mem S.root _ ⟨rfl, f0, f1⟩
    · exact h
theorem do_good {S : S10} (h : Good S) (o : Op10) : Good (doR S o).2 := by
  unfold doR
  split
  · exact h.mem _ _
  · split
    · exact h.drop _
    · split
      · exact ⟨List.Pairwise.nil, fun x hx => by cases hx⟩
      · split
        · exact find_good h _
        · exact acc_good h _ _ _ _
theorem good_nil (mem : List Nat) (root : Int) : Good ⟨mem, root, []⟩ := ⟨List.Pairwise.nil, fun x hx => by cases hx⟩
end Go.Proofs.YtgaififhhffpfaaGreatDoor
