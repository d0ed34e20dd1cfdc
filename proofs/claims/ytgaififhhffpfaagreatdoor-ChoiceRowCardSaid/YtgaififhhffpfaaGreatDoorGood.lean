/- Laws of what a model knows, in plain Lean. Laws of accesses, in plain Lean. Laws of Find, and of an access that is not known, in plain Lean. An access done again, in plain Lean. What is known of other pages stays, in plain Lean. -/
import Derived.Test.YtgaififhhffpfaaGreatDoorMM
import Derived.Test.YtgaififhhffpfaaGreatDoorMovesP
import Derived.Test.YtgaififhhffpfaaGreatDoorLargeP
namespace Go.Proofs.YtgaififhhffpfaaGreatDoor
open Go.RowKit Go.Shelf

/-- two hits of unlike pages -/
def unlike (x y : Hit) : Prop := ¬ (x.asid = y.asid ∧ x.page = y.page)
/-- what is known, as it may be -/
structure Good (S : S10) : Prop where
  one : S.l.Pairwise unlike
  fr : ∀ h, h ∈ S.l → h.asid = 0 ∧ 0 ≤ h.frame ∧ h.frame < 16
theorem ofKey_iff {a p : Int} {h : Hit} : ofKey a p h = true ↔ h.asid = a ∧ h.page = p := by unfold ofKey; simp
theorem eraseP_sub {l : List Hit} {a p : Int} {h : Hit} (hm : h ∈ tdrop l a p) : h ∈ l := List.mem_of_mem_eraseP hm
theorem tget_some {l : List Hit} {a p : Int} {h : Hit} (hg : tget l a p = some h) : h ∈ l ∧ h.asid = a ∧ h.page = p :=
  ⟨List.mem_of_find?_eq_some hg, ofKey_iff.1 (List.find?_some hg)⟩
theorem tget_none {l : List Hit} {a p : Int} (hg : ∀ h, h ∈ l → ¬ (h.asid = a ∧ h.page = p)) : tget l a p = none := by
  unfold tget
  rw [List.find?_eq_none]
  exact fun h hm hk => hg h hm (ofKey_iff.1 hk)
/-- what is dropped is gone -/
theorem tdrop_gone : ∀ {l : List Hit}, l.Pairwise unlike → ∀ (a p : Int) (h : Hit), h ∈ tdrop l a p → ¬ (h.asid = a ∧ h.page = p)
  | [], _, _, _, h, hm => by simp [tdrop] at hm
  | x :: l, hp, a, p, h, hm => by
    rw [List.pairwise_cons] at hp
    unfold tdrop at hm
    by_cases hx : ofKey a p x = true
    · rw [List.eraseP_cons_of_pos hx] at hm
      have hx' := ofKey_iff.1 hx
      intro hh
      exact hp.1 h hm ⟨hx'.1.trans hh.1.symm, hx'.2.trans hh.2.symm⟩
    · rw [List.eraseP_cons_of_neg hx] at hm
      rcases List.mem_cons.1 hm with e | e
      · subst e; exact fun hh => hx (ofKey_iff.2 hh)
      · exact tdrop_gone hp.2 a p h e
theorem tget_drop {l : List Hit} (h : l.Pairwise unlike) (a p : Int) : tget (tdrop l a p) a p = none := tget_none (tdrop_gone h a p)
theorem tdrop_pw {l : List Hit} (h : l.Pairwise unlike) (a p : Int) : (tdrop l a p).Pairwise unlike := h.sublist List.eraseP_sublist
/-- what is put is there -/
theorem tget_put {l : List Hit} (hp : l.Pairwise unlike) (h : Hit) : tget (tput 512 l h) h.asid h.page = some h := by
  unfold tput tget
  rw [List.find?_append]
  have hn : ∀ m, (∀ x, x ∈ m → x ∈ tdrop l h.asid h.page) → List.find? (ofKey h.asid h.page) m = none := fun m hm => by
    rw [List.find?_eq_none]
    exact fun x hx hk => tdrop_gone hp h.asid h.page x (hm x hx) (ofKey_iff.1 hk)
  have hl : List.find? (ofKey h.asid h.page) [h] = some h := by
    rw [List.find?_cons_of_pos]
    exact ofKey_iff.2 ⟨rfl, rfl⟩
  split
  · rw [hn _ fun x hx => List.mem_of_mem_drop hx, hl]; rfl
  · rw [hn _ fun x hx => hx, hl]; rfl
theorem tput_mem {l : List Hit} {h x : Hit} (hm : x ∈ tput 512 l h) : x = h ∨ x ∈ tdrop l h.asid h.page := by
  unfold tput at hm
  rcases List.mem_append.1 hm with e | e
  · right; split at e
    · exact List.mem_of_mem_drop e
    · exact e
  · left; exact List.mem_singleton.1 e
theorem tput_pw {l : List Hit} (hp : l.Pairwise unlike) (h : Hit) : (tput 512 l h).Pairwise unlike := by
  have hd := tdrop_pw hp h.asid h.page
  unfold tput
  rw [List.pairwise_append]
  refine ⟨?_, List.pairwise_singleton _ _, fun x hx y hy => ?_⟩
  · split
    · exact hd.sublist (List.drop_sublist _ _)
    · exact hd
  · obtain rfl := List.mem_singleton.1 hy
    have hx' : x ∈ tdrop l y.asid y.page := by split at hx <;> first | exact List.mem_of_mem_drop hx | exact hx
    exact tdrop_gone hp y.asid y.page x hx'
theorem find_erase {l : List Hit} {a p a' p' : Int} (hne : ¬ (a = a' ∧ p = p')) : (l.eraseP (ofKey a p)).find? (ofKey a' p') = l.find? (ofKey a' p') := by
  induction l with
  | nil => rfl
  | cons x l ih =>
    by_cases hx : ofKey a p x = true
    · rw [List.eraseP_cons_of_pos hx, List.find?_cons_of_neg]
      intro hk
      have h1 := ofKey_iff.1 hx
      have h2 := ofKey_iff.1 hk
      exact hne ⟨h1.1.symm.trans h2.1, h1.2.symm.trans h2.2⟩
    · rw [List.eraseP_cons_of_neg hx]
      by_cases hk : ofKey a' p' x = true
      · rw [List.find?_cons_of_pos hk, List.find?_cons_of_pos hk]
      · rw [List.find?_cons_of_neg hk, List.find?_cons_of_neg hk, ih]
theorem tget_drop_ne {l : List Hit} {p q : Int} (hne : p ≠ q) : tget (tdrop l 0 p) 0 q = tget l 0 q := find_erase fun h => hne h.2
/-- what is put alters nothing of other pages, where there is room -/
theorem tget_put_ne {l : List Hit} {h : Hit} {q : Int} (hne : h.page ≠ q) (hl : l.length < 512) : tget (tput 512 l h) 0 q = tget l 0 q := by
  unfold tput tget
  have hd := tdrop_len l h.asid h.page
  rw [if_neg (by omega), List.find?_append, List.find?_cons_of_neg (by intro hk; exact hne (ofKey_iff.1 hk).2), List.find?_nil, Option.or_none]
  exact find_erase fun e => hne e.2

/-- the frame of what a walk finds -/
theorem wk_frame {get : Int → Int → Option Nat} {root page kind : Int} {user : Bool} {P : Path} {k : Int} (ho : out (wk get h16.length root page kind user) = (P, 0, k)) : 0 ≤ P.g ∧ P.g < 16 ∧ may P.r kind user = true ∧ k = 0 := by
  obtain ⟨h0, hm, hf, hP, hk⟩ := wk_found ho
  have hg : ∀ l : List St, 0 ≤ (foldP l).g := by
    intro l
    have : ∀ (l : List St) (p : Path), 0 ≤ p.g → 0 ≤ (l.foldl Path.step p).g := by
      intro l
      induction l with
      | nil => intro p h; exact h
      | cons a l ih => intro p _; exact ih _ (by unfold Path.step; dsimp only; omega)
    exact this l Path.start (by decide)
  have h16 : (h16.length : Int) = 16 := by decide
  refine ⟨?_, by omega, ?_, hk⟩
  · rw [hP]; unfold endP
    have h1 := hg (stepsFrom get page cd0 3 root)
    have h2 : 0 ≤ ix page 1 := by rw [ix_1]; omega
    split
    · dsimp only; omega
    · exact h1
  · rw [hP]; unfold endP
    split <;> exact hm

theorem Good.drop {S : S10} (h : Good S) (page : Int) : Good (dropS S page) := ⟨tdrop_pw h.one _ _, fun x hx => h.fr x (eraseP_sub hx)⟩
theorem good_put {S : S10} (h : Good S) (mem : List Nat) (root : Int) (x : Hit) (hx : x.asid = 0 ∧ 0 ≤ x.frame ∧ x.frame < 16) : Good ⟨mem, root, tput 512 S.l x⟩ :=
  ⟨tput_pw h.one x, fun y hy => by
    rcases tput_mem hy with e | e
    · subst e; exact hx
    · exact h.fr y (eraseP_sub e)⟩
theorem Good.mem {S : S10} (h : Good S) (mem : List Nat) (root : Int) : Good ⟨mem, root, S.l⟩ := ⟨h.one, h.fr⟩
theorem trans_good {S : S10} (h : Good S) (kind : Int) (user : Bool) (page : Int) (mem : List Nat) : Good ⟨mem, S.root, (transR S.mem S.root S.l kind user page).l⟩ := by
  have hm : Good ⟨mem, S.root, (missR S.mem S.root S.l kind user page (out (wk (rd h16 S.mem) h16.length S.root page kind user))).l⟩ := by
    obtain ⟨⟨P, hw, k⟩, ho⟩ : ∃ o, out (wk (rd h16 S.mem) h16.length S.root page kind user) = o := ⟨_, rfl⟩
    rw [ho]
    unfold missR
    dsimp only
    by_cases h0 : hw = 0
    · subst h0
      rw [if_pos rfl]
      obtain ⟨f0, f1, _⟩ := wk_frame ho
      exact good_put (h.drop page) mem S.root _ ⟨rfl, f0, f1⟩
    · rw [if_neg h0]
      exact (h.drop page).mem mem S.root
  unfold transR
  split
  · split
    · exact h.mem _ _
    · exact hm
  · exact hm
theorem acc_good {S : S10} (h : Good S) (kind : Int) (user : Bool) (a x : Nat) : Good (accS S kind user a x).2 := by
  have ht := fun mem => trans_good h kind user (pageOf a) mem
  unfold accS accR
  dsimp only
  split
  · split
    · split
      · split
        · exact ht _
        · exact ht _
      · exact ht _
    · exact h
  · exact h
theorem find_good {S : S10} (h : Good S) (page : Int) : Good (findS S page) := by
  unfold findS findR
  split
  · exact h
  · split
    · rename_i h0
      split
      · exact h
      · obtain ⟨⟨P, hw, k⟩, ho⟩ : ∃ o, out (wk (rd h16 S.mem) h16.length S.root page 0 false) = o := ⟨_, rfl⟩
        rw [ho] at h0 ⊢
        dsimp only at h0
        subst h0
        obtain ⟨f0, f1, _⟩ := wk_frame ho
        exact good_put h S.mem S.root _ ⟨rfl, f0, f1⟩
    · exact h
theorem do_good {S : S10} (h : Good S) (o : Op10) : Good (doR S o).2 := by
  unfold doR
  split
  · exact h.mem _ _
  · split
    · exact h.drop _
    · split
      · exact ⟨List.Pairwise.nil, fun x hx => by cases hx⟩
      · split
        · exact find_good h _
        · exact acc_good h _ _ _ _
theorem good_nil (mem : List Nat) (root : Int) : Good ⟨mem, root, []⟩ := ⟨List.Pairwise.nil, fun x hx => by cases hx⟩
end Go.Proofs.YtgaififhhffpfaaGreatDoor

namespace Go.Proofs.YtgaififhhffpfaaGreatDoor
open Go.RowKit Go.Shelf

theorem acc_hit {S : S10} {a : Nat} {h : Hit} {kind : Int} {user : Bool} (x : Nat) (hal : a % 8 = 0) (hc : wideOf a = a) (hg : tget S.l 0 (pageOf a) = some h) (hs : servesH h kind user = true) :
    accS S kind user a x = if kind = 1 then (⟨0, 0, 0, 0⟩, ⟨wr h16 S.mem h.frame (wordOf a) x, S.root, S.l⟩) else (⟨0, (rd h16 S.mem h.frame (wordOf a)).getD 0, 0, 0⟩, S) := by
  have ht : transR S.mem S.root S.l kind user (pageOf a) = ⟨h, 0, 0, S.mem, S.l⟩ := by
    unfold transR; rw [hg]; dsimp only; rw [if_pos hs]
  unfold accS accR
  rw [if_pos hal, if_pos hc]
  dsimp only
  rw [ht]
  dsimp only
  rw [if_pos rfl]
  by_cases hk : kind = 1
  · rw [if_pos hk, if_pos hk]
  · rw [if_neg hk, if_neg hk]
theorem serves_load (h : Hit) : servesH h 0 h.r.u = true := by
  unfold servesH may
  cases h.r.u <;> simp
theorem serves_store {h : Hit} (hd : h.dirty = true) (hw : h.r.w = true) : servesH h 1 false = true := by
  unfold servesH may
  simp [hd, hw]
theorem wr_back {mem : List Nat} (hl : mem.length = 128) {g i : Int} (hg : 0 ≤ g ∧ g < 16) (hi : 0 ≤ i ∧ i < 8) (v : Nat) : wr h16 (wr h16 mem g i v) g i ((rd h16 mem g i).getD 0) = mem := by
  unfold wr rd
  rw [place16, if_pos ⟨hg.1, hg.2, hi.1, hi.2⟩]
  dsimp only
  simp only [Option.bind_some]
  rw [List.set_set]
  have hlt : 8 * g.toNat + i.toNat < mem.length := by omega
  rw [List.getElem?_eq_getElem hlt]
  exact List.set_getElem_self hlt
theorem rd_some {mem : List Nat} (hl : mem.length = 128) {g i : Int} (hg : 0 ≤ g ∧ g < 16) (hi : 0 ≤ i ∧ i < 8) : (rd h16 mem g i).isSome = true := by
  unfold rd
  rw [place16, if_pos ⟨hg.1, hg.2, hi.1, hi.2⟩]
  simp only [Option.bind_some]
  have hlt : 8 * g.toNat + i.toNat < mem.length := by omega
  rw [List.getElem?_eq_getElem hlt]; rfl
theorem rd_put {mem : List Nat} (hl : mem.length = 128) {g i : Int} (hg : 0 ≤ g ∧ g < 16) (hi : 0 ≤ i ∧ i < 8) (v : Nat) : rd h16 (wr h16 mem g i v) g i = some v := by
  rw [rd_wr hl, if_pos ⟨rfl, rfl, rd_some hl hg hi⟩]
theorem gset_mm {B : Nat} {F : List Nat} {w : World} {p tp gp fb : Nat} {S : S10} (M : MM B F w p tp gp fb S) (hB : B ≤ w.heap.size) (g i : Int) (x : Nat) (hx : x < 2 ^ 64) :
    Calls Tryz.prog 42 #[.pointer (some ⟨gp, 0, none⟩), .int .i64 g, .int .i64 i, .int .u64 (x : Int)] w fun e w' => (∃ b, e = .returned (.bool b)) ∧ Did B F w p tp gp fb ⟨wr h16 S.mem g i x, S.root, S.l⟩ w' := by
  obtain ⟨v, M', h1, h2⟩ := M.ex
  refine (gm_set M'.g g i x hx).mono ?_
  rintro e w' ⟨rfl, G, K, _⟩
  exact ⟨⟨_, rfl⟩, MM.did M' h1 h2 hB M.small M.low (M'.mem G (by rw [wr_len', M'.len]) K) (OwnN.refl _ _) (K.mono (Nat.le_refl _) (fun k _ h => .inr (.inl h)))⟩
end Go.Proofs.YtgaififhhffpfaaGreatDoor

namespace Go.Proofs.YtgaififhhffpfaaGreatDoor
open Go.RowKit Go.Shelf

theorem do_root (S : S10) (o : Op10) (h : o.what ≠ 6) : (doR S o).2.root = S.root := by
  unfold doR
  split
  · rfl
  · split
    · rfl
    · first | (rw [if_neg h]; split <;> rfl) | (split <;> rfl)
theorem find_known {S : S10} {n : Int} {h : Hit} (hg : tget S.l 0 n = some h) : findR S.mem S.root S.l n = (false, S.l) := by
  unfold findR; rw [hg]; rfl
theorem find_bad {S : S10} {n : Int} {P : Path} {hw k : Int} (hg : tget S.l 0 n = none) (ho : out (wk (rd h16 S.mem) h16.length S.root n 0 false) = (P, hw, k)) (hh : hw ≠ 0) : findR S.mem S.root S.l n = (false, S.l) := by
  unfold findR; rw [hg, ho, if_neg (by simp), if_neg hh]
theorem find_unm {S : S10} {n : Int} {P : Path} {k : Int} (hg : tget S.l 0 n = none) (ho : out (wk (rd h16 S.mem) h16.length S.root n 0 false) = (P, 0, k)) (hu : P.ats.any (unused h16 S.mem) = true) : findR S.mem S.root S.l n = (false, S.l) := by
  unfold findR; rw [hg, ho, if_neg (by simp), if_pos rfl, if_pos hu]
theorem find_yes {S : S10} {n : Int} {P : Path} {k : Int} (hg : tget S.l 0 n = none) (ho : out (wk (rd h16 S.mem) h16.length S.root n 0 false) = (P, 0, k)) (hu : P.ats.any (unused h16 S.mem) = false) : findR S.mem S.root S.l n = (true, tput 512 S.l (foundH n P false)) := by
  unfold findR; rw [hg, ho, if_neg (by simp), if_pos rfl, if_neg (by rw [hu]; simp)]
theorem trans_miss {S : S10} {n kind : Int} {user : Bool} (hg : tget S.l 0 n = none) : transR S.mem S.root S.l kind user n = missR S.mem S.root S.l kind user n (out (wk (rd h16 S.mem) h16.length S.root n kind user)) := by
  unfold transR; rw [hg]
theorem acc_miss {S : S10} {a : Nat} {kind : Int} {user : Bool} {P : Path} {hw k : Int} (x : Nat) (hal : a % 8 = 0) (hc : wideOf a = a) (hg : tget S.l 0 (pageOf a) = none) (ho : out (wk (rd h16 S.mem) h16.length S.root (pageOf a) kind user) = (P, hw, k)) :
    accS S kind user a x = if hw = 0 then (if kind = 1 then (⟨0, 0, 0, 0⟩, ⟨wr h16 (markM S.mem P true) P.g (wordOf a) x, S.root, tput 512 (tdrop S.l 0 (pageOf a)) (foundH (pageOf a) P true)⟩)
      else (⟨0, (rd h16 (markM S.mem P false) P.g (wordOf a)).getD 0, 0, 0⟩, ⟨markM S.mem P false, S.root, tput 512 (tdrop S.l 0 (pageOf a)) (foundH (pageOf a) P false)⟩))
      else (⟨hw, 0, k, a⟩, ⟨S.mem, S.root, tdrop S.l 0 (pageOf a)⟩) := by
  have ht := trans_miss (kind := kind) (user := user) hg
  rw [ho] at ht
  unfold accS accR
  rw [if_pos hal, if_pos hc]
  dsimp only
  rw [ht]
  unfold missR
  dsimp only
  by_cases h0 : hw = 0
  · rw [if_pos h0, if_pos h0]
    dsimp only
    rw [if_pos rfl]
    by_cases hk : kind = 1
    · subst hk; rfl
    · have hk' : (kind == 1) = false := beq_eq_false_iff_ne.2 hk
      rw [if_neg hk, if_neg hk, hk']
      rfl
  · rw [if_neg h0, if_neg h0]
    dsimp only
    rw [if_neg h0]
end Go.Proofs.YtgaififhhffpfaaGreatDoor

namespace Go.Proofs.YtgaififhhffpfaaGreatDoor
open Go.RowKit Go.Shelf

/-- nothing that is known of a page serves -/
def idle (S : S10) (n kind : Int) (user : Bool) : Prop := ∀ h, tget S.l 0 n = some h → servesH h kind user = false
theorem trans_idle {S : S10} {n kind : Int} {user : Bool} (hg : idle S n kind user) : transR S.mem S.root S.l kind user n = missR S.mem S.root S.l kind user n (out (wk (rd h16 S.mem) h16.length S.root n kind user)) := by
  unfold transR
  cases h : tget S.l 0 n with
  | none => rfl
  | some x => dsimp only; rw [if_neg (by rw [hg x h]; simp)]
theorem acc_idle {S : S10} {a : Nat} {kind : Int} {user : Bool} {P : Path} {hw k : Int} (x : Nat) (hal : a % 8 = 0) (hc : wideOf a = a) (hg : idle S (pageOf a) kind user) (ho : out (wk (rd h16 S.mem) h16.length S.root (pageOf a) kind user) = (P, hw, k)) :
    accS S kind user a x = if hw = 0 then (if kind = 1 then (⟨0, 0, 0, 0⟩, ⟨wr h16 (markM S.mem P true) P.g (wordOf a) x, S.root, tput 512 (tdrop S.l 0 (pageOf a)) (foundH (pageOf a) P true)⟩)
      else (⟨0, (rd h16 (markM S.mem P false) P.g (wordOf a)).getD 0, 0, 0⟩, ⟨markM S.mem P false, S.root, tput 512 (tdrop S.l 0 (pageOf a)) (foundH (pageOf a) P false)⟩))
      else (⟨hw, 0, k, a⟩, ⟨S.mem, S.root, tdrop S.l 0 (pageOf a)⟩) := by
  have ht := trans_idle hg
  rw [ho] at ht
  unfold accS accR
  rw [if_pos hal, if_pos hc]
  dsimp only
  rw [ht]
  unfold missR
  dsimp only
  by_cases h0 : hw = 0
  · rw [if_pos h0, if_pos h0]
    dsimp only
    rw [if_pos rfl]
    by_cases hk : kind = 1
    · subst hk; rfl
    · have hk' : (kind == 1) = false := beq_eq_false_iff_ne.2 hk
      rw [if_neg hk, if_neg hk, hk']
      rfl
  · rw [if_neg h0, if_neg h0]
    dsimp only
    rw [if_neg h0]
theorem wr_twice (mem : List Nat) (g i : Int) (x : Nat) : wr h16 (wr h16 mem g i x) g i x = wr h16 mem g i x := by
  unfold wr
  cases place h16 g i with
  | none => rfl
  | some k => simp
/-- an access done again, where a hit serves -/
theorem again_hit {S : S10} {a : Nat} {h : Hit} {kind : Int} {user : Bool} (x : Nat) (hal : a % 8 = 0) (hc : wideOf a = a) (hg : tget S.l 0 (pageOf a) = some h) (hs : servesH h kind user = true) :
    (accS (accS S kind user a x).2 kind user a x).1 = (accS S kind user a x).1 ∧ (accS (accS S kind user a x).2 kind user a x).2 = (accS S kind user a x).2 := by
  have e := acc_hit (S := S) x hal hc hg hs
  by_cases hk : kind = 1
  · rw [if_pos hk] at e
    have e2 := acc_hit (S := ⟨wr h16 S.mem h.frame (wordOf a) x, S.root, S.l⟩) x hal hc hg hs
    rw [if_pos hk] at e2
    rw [e]
    dsimp only
    rw [e2]
    dsimp only
    rw [wr_twice]
    exact ⟨rfl, rfl⟩
  · rw [if_neg hk] at e
    rw [e]
    dsimp only
    rw [e]
    exact ⟨rfl, rfl⟩
theorem acc_align {S : S10} {a : Nat} {kind : Int} {user : Bool} (x : Nat) (hal : ¬ a % 8 = 0) : accS S kind user a x = (⟨4, 0, 0, a⟩, S) := by
  unfold accS accR; rw [if_neg hal]
theorem acc_canon {S : S10} {a : Nat} {kind : Int} {user : Bool} (x : Nat) (hal : a % 8 = 0) (hc : ¬ wideOf a = a) : accS S kind user a x = (⟨2, 0, 0, a⟩, S) := by
  unfold accS accR; rw [if_pos hal, if_neg hc]
theorem serves_found {page kind : Int} {user : Bool} {P : Path} (hm : may P.r kind user = true) : servesH (foundH page P (kind == 1)) kind user = true := by
  unfold servesH foundH
  dsimp only
  rw [hm]
  by_cases hk : kind = 1
  · subst hk; simp
  · simp [hk]
/-- what a second access comes to -/
theorem acc_again {S : S10} (hG : Good S) (kind : Int) (user : Bool) (a x : Nat) :
    (accS (accS S kind user a x).2 kind user a x).1 = (accS S kind user a x).1 ∧ (accS (accS S kind user a x).2 kind user a x).2.mem = (accS S kind user a x).2.mem := by
  by_cases hal : a % 8 = 0
  · by_cases hc : wideOf a = a
    · by_cases hi : ∃ h, tget S.l 0 (pageOf a) = some h ∧ servesH h kind user = true
      · obtain ⟨h, hg, hs⟩ := hi
        obtain ⟨e1, e2⟩ := again_hit x hal hc hg hs
        exact ⟨e1, by rw [e2]⟩
      · have hid : idle S (pageOf a) kind user := fun h hg => by
          cases hs : servesH h kind user with
          | false => rfl
          | true => exact absurd ⟨h, hg, hs⟩ hi
        obtain ⟨⟨P, hw, k⟩, ho⟩ : ∃ o, out (wk (rd h16 S.mem) h16.length S.root (pageOf a) kind user) = o := ⟨_, rfl⟩
        have e := acc_idle (S := S) x hal hc hid ho
        by_cases h0 : hw = 0
        · subst h0
          rw [if_pos rfl] at e
          obtain ⟨_, _, hm, _⟩ := wk_frame ho
          have hsv := serves_found (page := (pageOf a : Int)) (kind := kind) (user := user) hm
          by_cases hk : kind = 1
          · subst hk
            rw [if_pos rfl] at e
            have hg2 : tget (accS S 1 user a x).2.l 0 (pageOf a) = some (foundH (pageOf a) P true) := by rw [e]; exact tget_put (tdrop_pw hG.one _ _) (foundH (pageOf a) P true)
            have e2 := acc_hit (S := (accS S 1 user a x).2) x hal hc hg2 hsv
            rw [if_pos rfl] at e2
            rw [e2, e]
            exact ⟨rfl, wr_twice _ _ _ _⟩
          · have hk' : (kind == 1) = false := beq_eq_false_iff_ne.2 hk
            rw [hk'] at hsv
            rw [if_neg hk] at e
            have hg2 : tget (accS S kind user a x).2.l 0 (pageOf a) = some (foundH (pageOf a) P false) := by rw [e]; exact tget_put (tdrop_pw hG.one _ _) (foundH (pageOf a) P false)
            have e2 := acc_hit (S := (accS S kind user a x).2) x hal hc hg2 hsv
            rw [if_neg hk] at e2
            rw [e2, e]
            exact ⟨rfl, rfl⟩
        · rw [if_neg h0] at e
          have hid2 : idle (accS S kind user a x).2 (pageOf a) kind user := fun h hg => by
            rw [e] at hg
            dsimp only at hg
            rw [tget_drop hG.one] at hg; cases hg
          have ho2 : out (wk (rd h16 (accS S kind user a x).2.mem) h16.length (accS S kind user a x).2.root (pageOf a) kind user) = (P, hw, k) := by rw [e]; exact ho
          have e2 := acc_idle (S := (accS S kind user a x).2) x hal hc hid2 ho2
          rw [if_neg h0] at e2
          rw [e2, e]
          exact ⟨rfl, rfl⟩
    · rw [acc_canon x hal hc, acc_canon x hal hc]; exact ⟨rfl, rfl⟩
  · rw [acc_align x hal, acc_align x hal]; exact ⟨rfl, rfl⟩
theorem serves_less {h : Hit} {user : Bool} (hs : servesH h 1 user = true) : servesH h 0 user = true := by
  unfold servesH may at *
  simp at hs ⊢
  exact hs.1.1
theorem markM_len {mem : List Nat} (hl : mem.length = 128) (P : Path) (wt : Bool) : (markM mem P wt).length = 128 := by
  unfold markM; split
  · unfold markMem; rw [markTo_len, hl]
  · exact hl
/-- what was stored is loaded -/
theorem acc_stored {S : S10} (hG : Good S) (h128 : S.mem.length = 128) (user : Bool) (a x : Nat) (hd : (accS S 1 user a x).1.how = 0) : (accS (accS S 1 user a x).2 0 user a 0).1 = ⟨0, x, 0, 0⟩ := by
  have hwi : (0 : Int) ≤ (wordOf a : Int) ∧ (wordOf a : Int) < 8 := by unfold wordOf; omega
  by_cases hal : a % 8 = 0
  · by_cases hc : wideOf a = a
    · by_cases hi : ∃ h, tget S.l 0 (pageOf a) = some h ∧ servesH h 1 user = true
      · obtain ⟨h, hg, hs⟩ := hi
        have e := acc_hit (S := S) x hal hc hg hs
        rw [if_pos rfl] at e
        have hg2 : tget (accS S 1 user a x).2.l 0 (pageOf a) = some h := by rw [e]; exact hg
        have e2 := acc_hit (S := (accS S 1 user a x).2) 0 hal hc hg2 (serves_less hs)
        rw [if_neg (by decide)] at e2
        rw [e2, e]
        dsimp only
        rw [rd_put h128 (hG.fr h (tget_some hg).1).2 hwi]; rfl
      · have hid : idle S (pageOf a) 1 user := fun h hg => by
          cases hs : servesH h 1 user with
          | false => rfl
          | true => exact absurd ⟨h, hg, hs⟩ hi
        obtain ⟨⟨P, hw, k⟩, ho⟩ : ∃ o, out (wk (rd h16 S.mem) h16.length S.root (pageOf a) 1 user) = o := ⟨_, rfl⟩
        have e := acc_idle (S := S) x hal hc hid ho
        by_cases h0 : hw = 0
        · subst h0
          rw [if_pos rfl, if_pos rfl] at e
          obtain ⟨g0, g1, hm, _⟩ := wk_frame ho
          have hsv := serves_less (serves_found (page := (pageOf a : Int)) (kind := 1) (user := user) hm)
          have hg2 : tget (accS S 1 user a x).2.l 0 (pageOf a) = some (foundH (pageOf a) P true) := by rw [e]; exact tget_put (tdrop_pw hG.one _ _) (foundH (pageOf a) P true)
          have e2 := acc_hit (S := (accS S 1 user a x).2) 0 hal hc hg2 hsv
          rw [if_neg (by decide)] at e2
          rw [e2, e]
          dsimp only [foundH]
          rw [rd_put (markM_len h128 P true) ⟨g0, g1⟩ hwi]; rfl
        · rw [if_neg h0] at e
          rw [e] at hd; exact absurd hd h0
    · rw [acc_canon x hal hc] at hd; simp at hd
  · rw [acc_align x hal] at hd; simp at hd
end Go.Proofs.YtgaififhhffpfaaGreatDoor

namespace Go.Proofs.YtgaififhhffpfaaGreatDoor
open Go.RowKit Go.Shelf

theorem tput_len1 (l : List Hit) (h : Hit) : (tput 512 l h).length ≤ l.length + 1 := by
  have := tdrop_len l h.asid h.page
  unfold tput; rw [List.length_append]
  split
  · rw [List.length_drop]; simp only [List.length_singleton]; omega
  · simp only [List.length_singleton]; omega
theorem missR_len1 (mem : List Nat) (root : Int) (l : List Hit) (kind : Int) (user : Bool) (page : Int) (o : Path × Int × Int) : (missR mem root l kind user page o).l.length ≤ l.length + 1 := by
  have hd := tdrop_len l 0 page
  unfold missR
  split
  · exact Nat.le_trans (tput_len1 _ _) (by omega)
  · show (tdrop l 0 page).length ≤ _; omega
theorem transR_len1 (mem : List Nat) (root : Int) (l : List Hit) (kind : Int) (user : Bool) (page : Int) : (transR mem root l kind user page).l.length ≤ l.length + 1 := by
  unfold transR
  split
  · split
    · exact Nat.le_succ _
    · exact missR_len1 _ _ _ _ _ _ _
  · exact missR_len1 _ _ _ _ _ _ _
theorem accS_len1 (S : S10) (kind : Int) (user : Bool) (a x : Nat) : (accS S kind user a x).2.l.length ≤ S.l.length + 1 := by
  have ht := transR_len1 S.mem S.root S.l kind user (pageOf a)
  unfold accS accR
  dsimp only
  split
  · split
    · split
      · split
        · exact ht
        · exact ht
      · exact ht
    · exact Nat.le_succ _
  · exact Nat.le_succ _
theorem findS_len1 (S : S10) (page : Int) : (findS S page).l.length ≤ S.l.length + 1 := by
  unfold findS findR
  split
  · exact Nat.le_succ _
  · split
    · split
      · exact Nat.le_succ _
      · exact tput_len1 _ _
    · exact Nat.le_succ _
theorem do_len1 (S : S10) (o : Op10) : (doR S o).2.l.length ≤ S.l.length + 1 := by
  unfold doR
  split
  · exact Nat.le_succ _
  · split
    · have := tdrop_len S.l 0 o.page
      exact Nat.le_succ_of_le this
    · split
      · exact Nat.zero_le _
      · split
        · exact findS_len1 _ _
        · exact accS_len1 _ _ _ _ _
theorem miss_ne {mem : List Nat} {root : Int} {l : List Hit} {kind : Int} {user : Bool} {page n : Int} {o : Path × Int × Int} (hl : l.length < 512) (hne : page ≠ n) : tget (missR mem root l kind user page o).l 0 n = tget l 0 n := by
  have hd := tdrop_len l 0 page
  unfold missR
  split
  · show tget (tput 512 (tdrop l 0 page) (foundH page o.1 (kind == 1))) 0 n = _
    rw [tget_put_ne (h := foundH page o.1 (kind == 1)) hne (by omega), tget_drop_ne hne]
  · exact tget_drop_ne hne
theorem trans_ne {mem : List Nat} {root : Int} {l : List Hit} {kind : Int} {user : Bool} {page n : Int} (hl : l.length < 512) (hne : page ≠ n) : tget (transR mem root l kind user page).l 0 n = tget l 0 n := by
  unfold transR
  split
  · split
    · rfl
    · exact miss_ne hl hne
  · exact miss_ne hl hne
theorem acc_ne {S : S10} {kind : Int} {user : Bool} {a x : Nat} {n : Int} (hl : S.l.length < 512) (hne : (pageOf a : Int) ≠ n) : tget (accS S kind user a x).2.l 0 n = tget S.l 0 n := by
  have ht := trans_ne (mem := S.mem) (root := S.root) (kind := kind) (user := user) hl hne
  unfold accS accR
  dsimp only
  split
  · split
    · split
      · split
        · exact ht
        · exact ht
      · exact ht
    · rfl
  · rfl
theorem find_ne {S : S10} {page n : Int} (hl : S.l.length < 512) (hne : page ≠ n) : tget (findS S page).l 0 n = tget S.l 0 n := by
  unfold findS findR
  split
  · rfl
  · split
    · split
      · rfl
      · exact tget_put_ne (h := foundH page _ false) hne hl
    · rfl
/-- does an operation leave a page alone? -/
structure Alone (o : Op10) (n : Int) : Prop where
  acc : o.what < 4 ∨ 7 < o.what → (pageOf o.a : Int) ≠ n
  one : o.what = 5 ∨ o.what = 7 → o.page ≠ n
  not6 : o.what ≠ 6
theorem do_alone {S : S10} {o : Op10} {n : Int} (hl : S.l.length < 512) (h : Alone o n) : tget (doR S o).2.l 0 n = tget S.l 0 n := by
  unfold doR
  split
  · rfl
  · split
    · rename_i h5
      exact tget_drop_ne (h.one (.inl h5))
    · split
      · rename_i h6; exact absurd h6 h.not6
      · split
        · rename_i h7; exact find_ne hl (h.one (.inr h7))
        · rename_i h4 h5 h6 h7
          exact acc_ne hl (h.acc (by omega))
end Go.Proofs.YtgaififhhffpfaaGreatDoor
