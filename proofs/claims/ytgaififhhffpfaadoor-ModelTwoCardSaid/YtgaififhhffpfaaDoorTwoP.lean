/- What is known of other pages stays, in plain Lean. -/
import Derived.Test.YtgaififhhffpfaaDoorFindsP
namespace Go.Proofs.YtgaififhhffpfaaDoor
open Go.RowKit Go.Shelf

theorem tput_len1 (l : List Hit) (h : Hit) : (tput 512 l h).length ≤ l.length + 1 := by
  have := tdrop_len l h.asid h.page
  unfold tput; rw [List.length_append]
  split
  · rw [List.length_drop]; simp only [List.length_singleton]; omega
  · simp only [List.length_singleton]; omega
theorem missR_len1 (mem : List Nat) (root : Int) (l : List Hit) (kind : Int) (user : Bool) (page : Int) (o : Path × Int × Int) : (missR mem root l kind user page o).l.length ≤ l.length + 1 := by
  have hd := tdrop_len l 0 page
  unfold missR
  split
  · exact Nat.le_trans (tput_len1 _ _) (by omega)
  · show (tdrop l 0 page).length ≤ _; omega
theorem transR_len1 (mem : List Nat) (root : Int) (l : List Hit) (kind : Int) (user : Bool) (page : Int) : (transR mem root l kind user page).l.length ≤ l.length + 1 := by
  unfold transR
  split
  · split
    · exact Nat.le_succ _
    · exact missR_len1 _ _ _ _ _ _ _
  · exact missR_len1 _ _ _ _ _ _ _
theorem accS_len1 (S : S10) (kind : Int) (user : Bool) (a x : Nat) : (accS S kind user a x).2.l.length ≤ S.l.length + 1 := by
  have ht := transR_len1 S.mem S.root S.l kind user (pageOf a)
  unfold accS accR
  dsimp only
  split
  · split
    · split
      · split
        · exact ht
        · exact ht
      · exact ht
    · exact Nat.le_succ _
  · exact Nat.le_succ _
theorem findS_len1 (S : S10) (page : Int) : (findS S page).l.length ≤ S.l.length + 1 := by
  unfold findS findR
  split
  · exact Nat.le_succ _
  · split
    · split
      · exact Nat.le_succ _
      · exact tput_len1 _ _
    · exact Nat.le_succ _
theorem do_len1 (S : S10) (o : Op10) : (doR S o).2.l.length ≤ S.l.length + 1 := by
  unfold doR
  split
  · exact Nat.le_succ _
  · split
    · have := tdrop_len S.l 0 o.page
      exact Nat.le_succ_of_le this
    · split
      · exact Nat.zero_le _
      · split
        · exact findS_len1 _ _
        · exact accS_len1 _ _ _ _ _
theorem miss_ne {mem : List Nat} {root : Int} {l : List Hit} {kind : Int} {user : Bool} {page n : Int} {o : Path × Int × Int} (hl : l.length < 512) (hne : page ≠ n) : tget (missR mem root l kind user page o).l 0 n = tget l 0 n := by
  have hd := tdrop_len l 0 page
  unfold missR
  split
  · show tget (tput 512 (tdrop l 0 page) (foundH page o.1 (kind == 1))) 0 n = _
    rw [tget_put_ne (h := foundH page o.1 (kind == 1)) hne (by omega), tget_drop_ne hne]
  · exact tget_drop_ne hne
theorem trans_ne {mem : List Nat} {root : Int} {l : List Hit} {kind : Int} {user : Bool} {page n : Int} (hl : l.length < 512) (hne : page ≠ n) : tget (transR mem root l kind user page).l 0 n = tget l 0 n := by
  unfold transR
  split
  · split
    · rfl
    · exact miss_ne hl hne
  · exact miss_ne hl hne
theorem acc_ne {S : S10} {kind : Int} {user : Bool} {a x : Nat} {n : Int} (hl : S.l.length < 512) (hne : (pageOf a : Int) ≠ n) : tget (accS S kind user a x).2.l 0 n = tget S.l 0 n := by
  have ht := trans_ne (mem := S.mem) (root := S.root) (kind := kind) (user := user) hl hne
  unfold accS accR
  dsimp only
  split
  · split
    · split
      · split
        · exact ht
        · exact ht
      · exact ht
    · rfl
  · rfl
theorem find_ne {S : S10} {page n : Int} (hl : S.l.length < 512) (hne : page ≠ n) : tget (findS S page).l 0 n = tget S.l 0 n := by
  unfold findS findR
  split
  · rfl
  · split
    · split
      · rfl
      · exact tget_put_ne (h := foundH page _ false) hne hl
    · rfl
/-- does an operation leave a page alone? -/
structure Alone (o : Op10) (n : Int) : Prop where
  acc : o.what < 4 ∨ 7 < o.what → (pageOf o.a : Int) ≠ n
  one : o.what = 5 ∨ o.what = 7 → o.page ≠ n
  not6 : o.what ≠ 6
theorem do_alone {S : S10} {o : Op10} {n : Int} (hl : S.l.length < 512) (h : Alone o n) : tget (doR S o).2.l 0 n = tget S.l 0 n := by
  unfold doR
  split
  · rfl
  · split
    · rename_i h5
      exact tget_drop_ne (h.one (.inl h5))
    · split
      · rename_i h6; exact absurd h6 h.not6
      · split
        · rename_i h7; exact find_ne hl (h.one (.inr h7))
        · rename_i h4 h5 h6 h7
          exact acc_ne hl (h.acc (by omega))
end Go.Proofs.YtgaififhhffpfaaDoor
