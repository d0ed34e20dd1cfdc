/- An access done again, in plain Lean. -/
import Derived.Test.YtgaififhhffpfaaGreatDoorFindsP
namespace Go.Proofs.YtgaififhhffpfaaGreatDoor
open Go.RowKit Go.Shelf

/-- nothing that is known of a page serves -/
def idle (S : S10) (n kind : Int) (user : Bool) : Prop := ∀ h, tget S.l 0 n = some h → servesH h kind user = false
theorem trans_idle {S : S10} {n kind : Int} {user : Bool} (hg : idle S n kind user) : transR S.mem S.root S.l kind user n = missR S.mem S.root S.l kind user n (out (wk (rd h16 S.mem) h16.length S.root n kind user)) := by
  unfold transR
  cases h : tget S.l 0 n with
  | none => rfl
  | some x => dsimp only; rw [if_neg (by rw [hg x h]; simp)]
theorem acc_idle {S : S10} {a : Nat} {kind : Int} {user : Bool} {P : Path} {hw k : Int} (x : Nat) (hal : a % 8 = 0) (hc : wideOf a = a) (hg : idle S (pageOf a) kind user) (ho : out (wk (rd h16 S.mem) h16.length S.root (pageOf a) kind user) = (P, hw, k)) :
    accS S kind user a x = if hw = 0 then (if kind = 1 then (⟨0, 0, 0, 0⟩, ⟨wr h16 (markM S.mem P true) P.g (wordOf a) x, S.root, tput 512 (tdrop S.l 0 (pageOf a)) (foundH (pageOf a) P true)⟩)
      else (⟨0, (rd h16 (markM S.mem P false) P.g (wordOf a)).getD 0, 0, 0⟩, ⟨markM S.mem P false, S.root, tput 512 (tdrop S.l 0 (pageOf a)) (foundH (pageOf a) P false)⟩))
      else (⟨hw, 0, k, a⟩, ⟨S.mem, S.root, tdrop S.l 0 (pageOf a)⟩) := by
  have ht := trans_idle hg
  rw [ho] at ht
  unfold accS accR
  rw [if_pos hal, if_pos hc]
  dsimp only
  rw [ht]
  unfold missR
  dsimp only
  by_cases h0 : hw = 0
  · rw [if_pos h0, if_pos h0]
    dsimp only
    rw [if_pos rfl]
    by_cases hk : kind = 1
    · subst hk; rfl
    · have hk' : (kind == 1) = false := beq_eq_false_iff_ne.2 hk
      rw [if_neg hk, if_neg hk, hk']
      rfl
  · rw [if_neg h0, if_neg h0]
    dsimp only
    rw [if_neg h0]
theorem wr_twice (mem : List Nat) (g i : Int) (x : Nat) : wr h16 (wr h16 mem g i x) g i x = wr h16 mem g i x := by
  unfold wr
  cases place h16 g i with
  | none => rfl
  | some k => simp
/-- an access done again, where a hit serves -/
theorem again_hit {S : S10} {a : Nat} {h : Hit} {kind : Int} {user : Bool} (x : Nat) (hal : a % 8 = 0) (hc : wideOf a = a) (hg : tget S.l 0 (pageOf a) = some h) (hs : servesH h kind user = true) :
    (accS (accS S kind user a x).2 kind user a x).1 = (accS S kind user a x).1 ∧ (accS (accS S kind user a x).2 kind user a x).2 = (accS S kind user a x).2 := by
  have e := acc_hit (S := S) x hal hc hg hs
  by_cases hk : kind = 1
  · rw [if_pos hk] at e
    have e2 := acc_hit (S := ⟨wr h16 S.mem h.frame (wordOf a) x, S.root, S.l⟩) x hal hc hg hs
    rw [if_pos hk] at e2
    rw [e]
    dsimp only
    rw [e2]
    dsimp only
    rw [wr_twice]
    exact ⟨rfl, rfl⟩
  · rw [if_neg hk] at e
    rw [e]
    dsimp only
    rw [e]
    exact ⟨rfl, rfl⟩
theorem acc_align {S : S10} {a : Nat} {kind : Int} {user : Bool} (x : Nat) (hal : ¬ a % 8 = 0) : accS S kind user a x = (⟨4, 0, 0, a⟩, S) := by
  unfold accS accR; rw [if_neg hal]
theorem acc_canon {S : S10} {a : Nat} {kind : Int} {user : Bool} (x : Nat) (hal : a % 8 = 0) (hc : ¬ wideOf a = a) : accS S kind user a x = (⟨2, 0, 0, a⟩, S) := by
  unfold accS accR; rw [if_pos hal, if_neg hc]
theorem serves_found {page kind : Int} {user : Bool} {P : Path} (hm : may P.r kind user = true) : servesH (foundH page P (kind == 1)) kind user = true := by
  unfold servesH foundH
  dsimp only
  rw [hm]
  by_cases hk : kind = 1
  · subst hk; simp
  · simp [hk]
/-- what a second access comes to -/
theorem acc_again {S : S10} (hG : Good S) (kind : Int) (user : Bool) (a x : Nat) :
    (accS (accS S kind user a x).2 kind user a x).1 = (accS S kind user a x).1 ∧ (accS (accS S kind user a x).2 kind user a x).2.mem = (accS S kind user a x).2.mem := by
  by_cases hal : a % 8 = 0
  · by_cases hc : wideOf a = a
    · by_cases hi : ∃ h, tget S.l 0 (pageOf a) = some h ∧ servesH h kind user = true
      · obtain ⟨h, hg, hs⟩ := hi
        obtain ⟨e1, e2⟩ := again_hit x hal hc hg hs
        exact ⟨e1, by rw [e2]⟩
      · have hid : idle S (pageOf a) kind user := fun h hg => by
          cases hs : servesH h kind user with
          | false => rfl
          | true => exact absurd ⟨h, hg, hs⟩ hi
        obtain ⟨⟨P, hw, k⟩, ho⟩ : ∃ o, out (wk (rd h16 S.mem) h16.length S.root (pageOf a) kind user) = o := ⟨_, rfl⟩
        have e := acc_idle (S := S) x hal hc hid ho
        by_cases h0 : hw = 0
        · subst h0
          rw [if_pos rfl] at e
          obtain ⟨_, _, hm, _⟩ := wk_frame ho
          have hsv := serves_found (page := (pageOf a : Int)) (kind := kind) (user := user) hm
          by_cases hk : kind = 1
          · subst hk
            rw [if_pos rfl] at e
            have hg2 : tget (accS S 1 user a x).2.l 0 (pageOf a) = some (foundH (pageOf a) P true) := by rw [e]; exact tget_put (tdrop_pw hG.one _ _) (foundH (pageOf a) P true)
            have e2 := acc_hit (S := (accS S 1 user a x).2) x hal hc hg2 hsv
            rw [if_pos rfl] at e2
            rw [e2, e]
            exact ⟨rfl, wr_twice _ _ _ _⟩
          · have hk' : (kind == 1) = false := beq_eq_false_iff_ne.2 hk
            rw [hk'] at hsv
            rw [if_neg hk] at e
            have hg2 : tget (accS S kind user a x).2.l 0 (pageOf a) = some (foundH (pageOf a) P false) := by rw [e]; exact tget_put (tdrop_pw hG.one _ _) (foundH (pageOf a) P false)
            have e2 := acc_hit (S := (accS S kind user a x).2) x hal hc hg2 hsv
            rw [if_neg hk] at e2
            rw [e2, e]
            exact ⟨rfl, rfl⟩
        · rw [if_neg h0] at e
          have hid2 : idle (accS S kind user a x).2 (pageOf a) kind user := fun h hg => by
            rw [e] at hg
            dsimp only at hg
            rw [tget_drop hG.one] at hg; cases hg
          have ho2 : out (wk (rd h16 (accS S kind user a x).2.mem) h16.length (accS S kind user a x).2.root (pageOf a) kind user) = (P, hw, k) := by rw [e]; exact ho
          have e2 := acc_idle (S := (accS S kind user a x).2) x hal hc hid2 ho2
          rw [if_neg h0] at e2
          rw [e2, e]
          exact ⟨rfl, rfl⟩
    · rw [acc_canon x hal hc, acc_canon x hal hc]; exact ⟨rfl, rfl⟩
  · rw [acc_align x hal, acc_align x hal]; exact ⟨rfl, rfl⟩
theorem serves_less {h : Hit} {user : Bool} (hs : servesH h 1 user = true) : servesH h 0 user = true := by
  unfold servesH may at *
  simp at hs ⊢
  exact hs.1.1
theorem markM_len {mem : List Nat} (hl : mem.length = 128) (P : Path) (wt : Bool) : (markM mem P wt).length = 128 := by
  unfold markM; split
  · unfold markMem; rw [markTo_len, hl]
  · exact hl
/-- what was stored is loaded -/
theorem acc_stored {S : S10} (hG : Good S) (h128 : S.mem.length = 128) (user : Bool) (a x : Nat) (hd : (accS S 1 user a x).1.how = 0) : (accS (accS S 1 user a x).2 0 user a 0).1 = ⟨0, x, 0, 0⟩ := by
  have hwi : (0 : Int) ≤ (wordOf a : Int) ∧ (wordOf a : Int) < 8 := by unfold wordOf; omega
  by_cases hal : a % 8 = 0
  · by_cases hc : wideOf a = a
    · by_cases hi : ∃ h, tget S.l 0 (pageOf a) = some h ∧ servesH h 1 user = true
      · obtain ⟨h, hg, hs⟩ := hi
        have e := acc_hit (S := S) x hal hc hg hs
        rw [if_pos rfl] at e
        have hg2 : tget (accS S 1 user a x).2.l 0 (pageOf a) = some h := by rw [e]; exact hg
        have e2 := acc_hit (S := (accS S 1 user a x).2) 0 hal hc hg2 (serves_less hs)
        rw [if_neg (by decide)] at e2
        rw [e2, e]
        dsimp only
        rw [rd_put h128 (hG.fr h (tget_some hg).1).2 hwi]; rfl
      · have hid : idle S (pageOf a) 1 user := fun h hg => by
          cases hs : servesH h 1 user with
          | false => rfl
          | true => exact absurd ⟨h, hg, hs⟩ hi
        obtain ⟨⟨P, hw, k⟩, ho⟩ : ∃ o, out (wk (rd h16 S.mem) h16.length S.root (pageOf a) 1 user) = o := ⟨_, rfl⟩
        have e := acc_idle (S := S) x hal hc hid ho
        by_cases h0 : hw = 0
        · subst h0
          rw [if_pos rfl, if_pos rfl] at e
          obtain ⟨g0, g1, hm, _⟩ := wk_frame ho
          have hsv := serves_less (serves_found (page := (pageOf a : Int)) (kind := 1) (user := user) hm)
          have hg2 : tget (accS S 1 user a x).2.l 0 (pageOf a) = some (foundH (pageOf a) P true) := by rw [e]; exact tget_put (tdrop_pw hG.one _ _) (foundH (pageOf a) P true)
          have e2 := acc_hit (S := (accS S 1 user a x).2) 0 hal hc hg2 hsv
          rw [if_neg (by decide)] at e2
          rw [e2, e]
          dsimp only [foundH]
          rw [rd_put (markM_len h128 P true) ⟨g0, g1⟩ hwi]; rfl
        · rw [if_neg h0] at e
          rw [e] at hd; exact absurd hd h0
    · rw [acc_canon x hal hc] at hd; simp at hd
  · rw [acc_align x hal] at hd; simp at hd
end Go.Proofs.YtgaififhhffpfaaGreatDoor
