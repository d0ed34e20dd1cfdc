/- A walk in a memory whose unread words are turned: plain lemmas. -/
import Derived.Test.YtgaififhhffpfaaGreatDoorReads
namespace Go.Proofs.YtgaififhhffpfaaGreatDoor
open Go.RowKit

def hasTo (rs : List (Int × Int)) (x : Int × Int) (m : Nat) : Bool := (List.range m).any fun t => decide (rs.getD t (0, 0) = x)
theorem hasTo_mem {rs : List (Int × Int)} {x : Int × Int} (h : x ∈ rs) : hasTo rs x rs.length = true := by
  unfold hasTo
  rw [List.any_eq_true]
  obtain ⟨j, hj, rfl⟩ := List.getElem_of_mem h
  refine ⟨j, by simpa using hj, ?_⟩
  simp [List.getD, List.getElem?_eq_getElem hj]
def turned (rs : List (Int × Int)) (v : Nat) (mem : List Nat) : Nat → List Nat
  | 0 => mem
  | n + 1 => if hasTo rs (((n / 8 : Nat) : Int), ((n % 8 : Nat) : Int)) rs.length then turned rs v mem n else wr h16 (turned rs v mem n) ((n / 8 : Nat) : Int) ((n % 8 : Nat) : Int) v
theorem wr_len' (hosts mem : List Nat) (g i : Int) (v : Nat) : (wr hosts mem g i v).length = mem.length := by
  unfold wr; split <;> simp
theorem turned_len (rs : List (Int × Int)) (v : Nat) (mem : List Nat) (n : Nat) : (turned rs v mem n).length = mem.length := by
  induction n with
  | zero => rfl
  | succ n ih =>
    rw [turned]
    split
    · exact ih
    · rw [wr_len', ih]
theorem turned_none {rs : List (Int × Int)} {v : Nat} {mem : List Nat} (hl : mem.length = 128) {g i : Int} (h : rd h16 mem g i = none) (n : Nat) : rd h16 (turned rs v mem n) g i = none := by
  induction n with
  | zero => exact h
  | succ n ih =>
    rw [turned]
    split
    · exact ih
    · rw [rd_wr (by rw [turned_len, hl])]
      rw [if_neg, ih]
      rintro ⟨rfl, rfl, hs⟩
      rw [ih] at hs
      cases hs
theorem turned_read {rs : List (Int × Int)} {v : Nat} {mem : List Nat} (hl : mem.length = 128) {g i : Int} (h : (g, i) ∈ rs) (n : Nat) : rd h16 (turned rs v mem n) g i = rd h16 mem g i := by
  induction n with
  | zero => rfl
  | succ n ih =>
    rw [turned]
    split
    · exact ih
    · rename_i hn
      rw [rd_wr (by rw [turned_len, hl])]
      rw [if_neg, ih]
      rintro ⟨h1, h2, _⟩
      rw [← h1, ← h2] at h
      exact hn (hasTo_mem h)
theorem steps_agree {get get' : Int → Int → Option Nat} {page : Int} {cd : Bool → Bool → Int} (hn : ∀ g i, get g i = none → get' g i = none) :
    ∀ (n : Nat) (g : Int), (∀ q, q ∈ readsFrom get page n g → get' q.1 q.2 = get q.1 q.2) → stepsFrom get' page cd n g = stepsFrom get page cd n g := by
  intro n
  induction n with
  | zero => intro g _; rfl
  | succ n ih =>
    intro g h
    have hg : get' g (ix page ((n + 1 : Nat) : Int)) = get g (ix page ((n + 1 : Nat) : Int)) := by
      cases hh : get g (ix page ((n + 1 : Nat) : Int)) with
      | none => exact hn _ _ hh
      | some v => rw [← hh]; exact h (g, ix page ((n + 1 : Nat) : Int)) (by simp only [readsFrom]; rw [hh]; simp)
    have hs : stepAt get' page cd (n + 1) g = stepAt get page cd (n + 1) g := by unfold stepAt; rw [hg]
    simp only [stepsFrom]
    rw [hs]
    split
    · rfl
    · rename_i hc
      congr 1
      refine ih _ (fun q hq => h q ?_)
      simp only [Bool.or_eq_true, not_or, Bool.not_eq_true] at hc
      obtain ⟨h1, h2⟩ := hc
      obtain ⟨g1, g2, g3⟩ := stepAt_ok (get := get) (page := page) (cd := cd) (lv := n + 1) (g := g) (by simpa using h1)
      cases hh : get g (ix page ((n + 1 : Nat) : Int)) with
      | none => rw [hh] at g1; cases g1
      | some v =>
        have he : (stepAt get page cd (n + 1) g).e = pte v := by unfold stepAt; simp only [hh, Option.getD_some]
        rw [he] at g2 g3 h2 hq
        have hps : (pte v).ps = false := by unfold lastE at h2; simp at h2; exact h2.2
        have hbad : (pte v).bad = false := by unfold badE at g3; rw [hps] at g3; simpa using g3
        simp only [readsFrom]
        rw [hh]
        dsimp only
        have hgo : goneE (pte v) = false := by unfold goneE; rw [g2, hps, hbad]; rfl
        rw [hgo]
        simp only [Bool.false_eq_true, if_false]
        exact List.mem_cons_of_mem _ hq
theorem still_pure {mem : List Nat} (hl : mem.length = 128) {rs : List (Int × Int)} {root page : Int} (hrs : readsFrom (rd h16 mem) page 3 root = rs) (v n : Nat) (kind : Int) (user : Bool) :
    wk (rd h16 (turned rs v mem n)) h16.length root page kind user = wk (rd h16 mem) h16.length root page kind user := by
  unfold wk
  rw [steps_agree (get := rd h16 mem) (get' := rd h16 (turned rs v mem n)) (fun g i h => turned_none hl h n) 3 root (fun q hq => turned_read hl (by rw [← hrs]; exact hq) n)]
end Go.Proofs.YtgaififhhffpfaaGreatDoor
