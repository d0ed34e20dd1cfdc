/- A map of frames of its own, as a thing: what Host tells by it (layer 17's filler has one beside the guest's). -/
import Derived.Test.YtglohconhbcchaaGreatDoorGop
namespace Go.Proofs.YtglohconhbcchaaGreatDoor
open Go.RowKit Go.Shelf Go.Maps

/-- a map of the guest's frames, at gp, its list at hb -/
structure MapAt (w : World) (gp hb mb cap : Nat) (hosts : List Nat) : Prop where
  hdr : Blk w gp 200 [.slice (some ⟨hb, 0, none⟩) hosts.length cap, .map (some mb)]
  row : ∃ sp, Blk w hb 3 (hosts.map i64 ++ sp)
  len : hosts.length ≤ 64
def mapt (gp hb mb cap : Nat) (hosts : List Nat) : Thing where
  own k := k = gp ∨ k = hb
  so w := MapAt w gp hb mb cap hosts
  lt w h k hk := by
    rcases hk with e | e
    · subst e; exact h.hdr.lt
    · subst e; obtain ⟨_, h2⟩ := h.row; exact h2.lt
  keep w w' h _ hk := ⟨h.hdr.of_heap (hk _ (.inl rfl)), let ⟨sp, h2⟩ := h.row; ⟨sp, h2.of_heap (hk _ (.inr rfl))⟩, h.len⟩
theorem host_m {w : World} {gp hb mb cap : Nat} {P : Pm} (H : MapAt w gp hb mb cap P.hosts) (g : Int) :
    Calls Tryz.prog 105 #[.pointer (some ⟨gp, 0, none⟩), .int .i64 g] w
      fun e w' => e = .returned (.tuple #[.int .i64 (((ghost P g).getD 0 : Nat) : Int), .bool (ghost P g).isSome]) ∧ w = w' := by
  obtain ⟨g2, ⟨sp, g3⟩, g4⟩ := H
  have c1 := g2.cell (k := 0) rfl
  have lg := g2.lt
  by_cases hc : 0 ≤ g ∧ g < P.hosts.length
  · obtain ⟨k, rfl⟩ := Int.eq_ofNat_of_zero_le hc.1
    have hk : k < P.hosts.length := by omega
    obtain ⟨h, hh⟩ : ∃ h, P.hosts.getD k 0 = h := ⟨_, rfl⟩
    have d1 : w.cell? ⟨hb, k, none⟩ = some (.int .i64 (h : Int)) := g3.cell (by rw [List.getElem?_append_left (by simpa using hk)]; simp [List.getElem?_eq_getElem hk, i64, ← hh, List.getD])
    have ld := g3.lt
    have e : ghost P (k : Int) = some h := by
      unfold ghost
      rw [if_pos hc, ← hh, List.getD, Int.toNat_natCast, List.getElem?_eq_getElem hk]; rfl
    rw [e]
    obtain ⟨n, hn⟩ : ∃ n, P.hosts.length = n := ⟨_, rfl⟩
    rw [hn] at c1 g4 hk
    clear hh g2 g3 hc e hn
    go_enter Tryz.func105, Tryz.ntmps105
    go_wp2
    go_ret2
    exact ⟨rfl, rfl⟩
  · have e : ghost P g = none := by unfold ghost; rw [if_neg hc]
    rw [e]
    obtain ⟨n, hn⟩ : ∃ n, P.hosts.length = n := ⟨_, rfl⟩
    rw [hn] at c1 g4 hc
    by_cases ha : g < 0
    · clear g2 g3 hc e hn
      go_enter Tryz.func105, Tryz.ntmps105
      go_wp2
      go_ret2
      exact ⟨rfl, rfl⟩
    · obtain ⟨g, rfl⟩ := Int.eq_ofNat_of_zero_le (by omega : 0 ≤ g)
      have hb' : n ≤ g := by omega
      clear g2 g3 hc e hn ha
      go_enter Tryz.func105, Tryz.ntmps105
      go_wp2
      go_ret2
      exact ⟨rfl, rfl⟩
end Go.Proofs.YtglohconhbcchaaGreatDoor
