/- Laws of accesses, in plain Lean. -/
import Derived.Test.YtgaififhhffpfaaGreatDoorGood
namespace Go.Proofs.YtgaififhhffpfaaGreatDoor
open Go.RowKit Go.Shelf

theorem acc_hit {S : S10} {a : Nat} {h : Hit} {kind : Int} {user : Bool} (x : Nat) (hal : a % 8 = 0) (hc : wideOf a = a) (hg : tget S.l 0 (pageOf a) = some h) (hs : servesH h kind user = true) :
    accS S kind user a x = if kind = 1 then (⟨0, 0, 0, 0⟩, ⟨wr h16 S.mem h.frame (wordOf a) x, S.root, S.l⟩) else (⟨0, (rd h16 S.mem h.frame (wordOf a)).getD 0, 0, 0⟩, S) := by
  have ht : transR S.mem S.root S.l kind user (pageOf a) = ⟨h, 0, 0, S.mem, S.l⟩ := by
    unfold transR; rw [hg]; dsimp only; rw [if_pos hs]
  unfold accS accR
  rw [if_pos hal, if_pos hc]
  dsimp only
  rw [ht]
  dsimp only
  rw [if_pos rfl]
  by_cases hk : kind = 1
  · rw [if_pos hk, if_pos hk]
  · rw [if_neg hk, if_neg hk]
theorem serves_load (h : Hit) : servesH h 0 h.r.u = true := by
  unfold servesH may
  cases h.r.u <;> simp
theorem serves_store {h : Hit} (hd : h.dirty = true) (hw : h.r.w = true) : servesH h 1 false = true := by
  unfold servesH may
  simp [hd, hw]
theorem wr_back {mem : List Nat} (hl : mem.length = 128) {g i : Int} (hg : 0 ≤ g ∧ g < 16) (hi : 0 ≤ i ∧ i < 8) (v : Nat) : wr h16 (wr h16 mem g i v) g i ((rd h16 mem g i).getD 0) = mem := by
  unfold wr rd
  rw [place16, if_pos ⟨hg.1, hg.2, hi.1, hi.2⟩]
  dsimp only
  simp only [Option.bind_some]
  rw [List.set_set]
  have hlt : 8 * g.toNat + i.toNat < mem.length := by omega
  rw [List.getElem?_eq_getElem hlt]
  exact List.set_getElem_self hlt
theorem rd_some {mem : List Nat} (hl : mem.length = 128) {g i : Int} (hg : 0 ≤ g ∧ g < 16) (hi : 0 ≤ i ∧ i < 8) : (rd h16 mem g i).isSome = true := by
  unfold rd
  rw [place16, if_pos ⟨hg.1, hg.2, hi.1, hi.2⟩]
  simp only [Option.bind_some]
  have hlt : 8 * g.toNat + i.toNat < mem.length := by omega
  rw [List.getElem?_eq_getElem hlt]; rfl
theorem rd_put {mem : List Nat} (hl : mem.length = 128) {g i : Int} (hg : 0 ≤ g ∧ g < 16) (hi : 0 ≤ i ∧ i < 8) (v : Nat) : rd h16 (wr h16 mem g i v) g i = some v := by
  rw [rd_wr hl, if_pos ⟨rfl, rfl, rd_some hl hg hi⟩]
theorem gset_mm {B : Nat} {F : List Nat} {w : World} {p tp gp fb : Nat} {S : S10} (M : MM B F w p tp gp fb S) (hB : B ≤ w.heap.size) (g i : Int) (x : Nat) (hx : x < 2 ^ 64) :
    Calls Tryz.prog 42 #[.pointer (some ⟨gp, 0, none⟩), .int .i64 g, .int .i64 i, .int .u64 (x : Int)] w fun e w' => (∃ b, e = .returned (.bool b)) ∧ Did B F w p tp gp fb ⟨wr h16 S.mem g i x, S.root, S.l⟩ w' := by
  obtain ⟨v, M', h1, h2⟩ := M.ex
  refine (gm_set M'.g g i x hx).mono ?_
  rintro e w' ⟨rfl, G, K, _⟩
  exact ⟨⟨_, rfl⟩, MM.did M' h1 h2 hB M.small M.low (M'.mem G (by rw [wr_len', M'.len]) K) (OwnN.refl _ _) (K.mono (Nat.le_refl _) (fun k _ h => .inr (.inl h)))⟩
end Go.Proofs.YtgaififhhffpfaaGreatDoor
