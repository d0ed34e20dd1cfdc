/- The law's do, each kind. The laws' Great. -/
import Derived.Test.YtglohconhbcchaaGreatDoorGop
namespace Go.Proofs.YtglohconhbcchaaGreatDoor
open Go.RowKit Go.Shelf Go.Maps

end Go.Proofs.YtglohconhbcchaaGreatDoor

namespace Go.Proofs.YtglohconhbcchaaGreatDoor
open Go.RowKit Go.Shelf Go.Maps

theorem mem_inv {P : Pm} {G : GS} (h : GInv P G) (m : List Nat) (hm : m.length = G.s.mem.length) : GInv P { G with s := { G.s with mem := m } } :=
  h.with G.l ⟨hm.trans h.s.len, h.s.sl, h.s.pos, h.s.bpos, h.s.nd, h.s.fr, h.s.cnt, h.s.top, h.s.small, h.s.kr⟩ ⟨h.k.1, h.k.2, h.k.3⟩ ⟨fun _ => rfl, fun _ => rfl, fun _ => rfl, rfl, rfl, rfl, rfl⟩
theorem gdo_inv {P : Pm} {G : GS} (h : GInv P G) (o : Opg) : GInv P (gdo P G o).2 := by
  unfold gdo
  by_cases c0 : o.k = 0 ∨ o.k = 1
  · rw [if_pos c0]; exact gmake_inv h _
  rw [if_neg c0]
  by_cases c1 : o.k = 2 ∨ o.k = 3
  · rw [if_pos c1]; exact h.with G.l (schild_inv h.s _ _ _ _) (h.k.child h.s _ _ _ _) (SameK.child _ _ _ _ _)
  rw [if_neg c1]
  by_cases c2 : o.k = 4 ∨ o.k = 5
  · rw [if_pos c2]; exact h.with G.l (sleaf_inv h.s _ _ _ _ _) (h.k.leaf h.s _ _ _ _ _ _) (SameK.leaf _ _ _ _ _ _ _)
  rw [if_neg c2]
  by_cases c3 : o.k = 6
  · rw [if_pos c3]; exact gzap_inv h _ _
  rw [if_neg c3]
  by_cases c4 : o.k = 7
  · rw [if_pos c4]; exact gword_inv h _ _
  rw [if_neg c4]
  by_cases c5 : o.k = 8
  · rw [if_pos c5]; exact gloosen_inv h _
  rw [if_neg c5]
  by_cases c6 : o.k = 9
  · rw [if_pos c6]; exact glook_inv h _
  rw [if_neg c6]
  by_cases c7 : o.k = 10
  · rw [if_pos c7]; exact gall_inv h
  rw [if_neg c7]
  by_cases c8 : o.k = 11
  · rw [if_pos c8]; exact gdrop_inv h _
  rw [if_neg c8]
  by_cases c9 : o.k = 12
  · rw [if_pos c9]; exact mem_inv h _ (wr_len _ _ _ _ _)
  rw [if_neg c9]
  by_cases c10 : o.k = 13
  · rw [if_pos c10]; exact h.with _ h.s h.k (SameK.refl _)
  rw [if_neg c10]
  exact h
theorem G24_inv (m : List Nat) (hm : m.length = 320) : GInv P24 (G24 m) :=
  ⟨S24_inv m hm, ⟨List.nodup_nil, fun _ hp => by simp [G24, S24] at hp, fun _ _ _ hx => by simp [G24, S24, sslot, spage] at hx⟩, List.nodup_nil, fun g hg => by simp [G24] at hg⟩
end Go.Proofs.YtglohconhbcchaaGreatDoor
