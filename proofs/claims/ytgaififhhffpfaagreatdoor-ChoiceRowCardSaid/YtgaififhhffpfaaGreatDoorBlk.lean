/- A block of memory known whole: its cells, that they may be written, what a store and a new block leave of it. No program stands here. -/
import Derived.WalkKit
import Derived.Deep.Draws
import Derived.RangeFuncNested
namespace Go.Proofs.YtgaififhhffpfaaGreatDoor
open Go.RowKit

/-- Block b holds just the cells xs, of element type T, none of them frozen. -/
def Blk (w : World) (b : Nat) (T : TypeId) (xs : List Value) : Prop := w.heap[b]? = some (.cells xs.toArray T (0, 0))

theorem Blk.lt {w : World} {b : Nat} {T : TypeId} {xs : List Value} (h : Blk w b T xs) : b < w.heap.size := lt_of_block h
theorem Blk.cell {w : World} {b : Nat} {T : TypeId} {xs : List Value} (h : Blk w b T xs) {k : Nat} {v : Value} (hk : xs[k]? = some v) : w.cell? ⟨b, k, none⟩ = some v := by
  unfold Blk at h; simp [World.cell?, h, hk]
theorem Blk.cellD {w : World} {b : Nat} {T : TypeId} {xs : List Value} (h : Blk w b T xs) (k : Nat) (hk : k < xs.length) (d : Value) : w.cell? ⟨b, k, none⟩ = some (xs.getD k d) :=
  h.cell (by simp [List.getD, List.getElem?_eq_getElem hk])
theorem Blk.free {w : World} {b : Nat} {T : TypeId} {xs : List Value} (h : Blk w b T xs) (k : Nat) : w.frozen? ⟨b, k, none⟩ = false := by
  unfold Blk at h; simp [World.frozen?, h]
theorem Blk.inj {w : World} {b : Nat} {T T' : TypeId} {xs ys : List Value} (h : Blk w b T xs) (h' : Blk w b T' ys) : xs = ys ∧ T = T' := by
  unfold Blk at h h'; rw [h] at h'; simp at h'; exact h'
theorem Blk.of_heap {w w' : World} {b : Nat} {T : TypeId} {xs : List Value} (h : Blk w b T xs) (he : w'.heap[b]? = w.heap[b]?) : Blk w' b T xs := by
  unfold Blk at *; rw [he, h]
theorem Blk.below {w w' : World} {B b : Nat} {T : TypeId} {xs : List Value} (h : Blk w b T xs) (hb : Below B w w') (hB : b < B) : Blk w' b T xs :=
  h.of_heap (hb.block b hB)
theorem Blk.past {w w' : World} {b : Nat} {T : TypeId} {xs : List Value} (h : Blk w b T xs) (hb : Below w.heap.size w w') : Blk w' b T xs :=
  h.below hb h.lt
theorem Blk.drewN {w : World} {b : Nat} {T : TypeId} {xs : List Value} (h : Blk w b T xs) (n : Nat) : Blk (w.drewN n) b T xs := h
theorem Blk.drew {w : World} {b : Nat} {T : TypeId} {xs : List Value} (h : Blk w b T xs) : Blk w.drew b T xs := h
theorem Blk.alloc {w : World} {b : Nat} {T : TypeId} {xs : List Value} (h : Blk w b T xs) (o : Obj) : Blk (w.alloc o) b T xs :=
  h.of_heap (Below.heap_alloc _ _ _ h.lt)
theorem Blk.new (w : World) (T : TypeId) (xs : List Value) : Blk (w.alloc (.cells xs.toArray T (0, 0))) w.heap.size T xs :=
  by show (w.heap.push _)[w.heap.size]? = _; exact Array.getElem?_push_size
theorem Blk.other {w : World} {b : Nat} {T : TypeId} {xs : List Value} (h : Blk w b T xs) {a : Addr} (ha : b ≠ a.block) (v : Value) : Blk (w.setCell a v) b T xs :=
  h.of_heap (Below.heap_setCell _ _ _ _ ha)
theorem Blk.set {w : World} {b : Nat} {T : TypeId} {xs : List Value} (h : Blk w b T xs) (k : Nat) (v : Value) : Blk (w.setCell ⟨b, k, none⟩ v) b T (xs.set k v) := by
  have hlt := h.lt
  unfold Blk at *
  have h' : w.heap[b] = .cells xs.toArray T (0, 0) := by simpa [Array.getElem?_eq_getElem hlt] using h
  show (w.heap.modify b _)[b]? = _
  rw [Array.getElem?_eq_getElem (by simpa using hlt), Array.getElem_modify_self, h']
  simp

/-- What a call may have turned of what lay below B: the blocks of S alone. -/
structure Kept (B : Nat) (S : Nat → Prop) (w w' : World) : Prop where
  os : w'.os = w.os
  tape : w'.tape = w.tape
  output : w'.output = w.output
  size : w.heap.size ≤ w'.heap.size
  block : ∀ k, k < B → ¬ S k → w'.heap[k]? = w.heap[k]?

theorem Kept.refl (B : Nat) (S : Nat → Prop) (w : World) : Kept B S w w := ⟨rfl, rfl, rfl, Nat.le_refl _, fun _ _ _ => rfl⟩
theorem Kept.trans {B : Nat} {S : Nat → Prop} {a b c : World} (h : Kept B S a b) (k : Kept B S b c) : Kept B S a c :=
  ⟨k.os.trans h.os, k.tape.trans h.tape, k.output.trans h.output, Nat.le_trans h.size k.size, fun i hi hs => (k.block i hi hs).trans (h.block i hi hs)⟩
theorem Kept.mono {B B' : Nat} {S S' : Nat → Prop} {w w' : World} (h : Kept B S w w') (hB : B' ≤ B) (hS : ∀ k, k < B' → S k → S' k) : Kept B' S' w w' :=
  ⟨h.os, h.tape, h.output, h.size, fun k hk hs => h.block k (Nat.lt_of_lt_of_le hk hB) (fun e => hs (hS k hk e))⟩
theorem Kept.of_below {B : Nat} {S : Nat → Prop} {w w' : World} (h : Below B w w') : Kept B S w w' := ⟨h.os, h.tape, h.output, h.size, fun k hk _ => h.block k hk⟩
theorem Kept.below {B : Nat} {S : Nat → Prop} {w w' : World} (h : Kept B S w w') (hS : ∀ k, k < B → ¬ S k) : Below B w w' := ⟨h.os, h.tape, h.output, h.size, fun k hk => h.block k hk (hS k hk)⟩
theorem Kept.drewN {B : Nat} {S : Nat → Prop} {a w : World} (h : Kept B S a w) (n : Nat) : Kept B S a (w.drewN n) := ⟨h.os, h.tape, h.output, h.size, h.block⟩
theorem Kept.alloc {B : Nat} {S : Nat → Prop} {a w : World} (h : Kept B S a w) (hB : B ≤ w.heap.size) (o : Obj) : Kept B S a (w.alloc o) :=
  h.trans (Kept.of_below ((Below.refl B w).alloc hB o))
theorem Kept.setCell {B : Nat} {S : Nat → Prop} {a w : World} (h : Kept B S a w) {p : Addr} (hp : S p.block ∨ B ≤ p.block) (v : Value) : Kept B S a (w.setCell p v) :=
  h.trans ⟨rfl, rfl, rfl, by simp [World.setCell], fun k hk hs => Below.heap_setCell _ _ _ _ (fun e => by
    rcases hp with hp | hp
    · exact hs (e ▸ hp)
    · omega)⟩
theorem Blk.kept {w w' : World} {B b : Nat} {S : Nat → Prop} {T : TypeId} {xs : List Value} (h : Blk w b T xs) (hk : Kept B S w w') (hB : b < B) (hS : ¬ S b) : Blk w' b T xs :=
  h.of_heap (hk.block b hB hS)
theorem below_drewN {B : Nat} {a w : World} (h : Below B a w) (n : Nat) : Below B a (w.drewN n) := ⟨h.os, h.tape, h.output, h.size, h.block⟩

theorem lt_of_cell {w : World} {b o : Nat} {v : Value} (h : w.cell? ⟨b, o, none⟩ = some v) : b < w.heap.size := by
  rcases Nat.lt_or_ge b w.heap.size with h' | h'
  · exact h'
  · simp [World.cell?, Array.getElem?_eq_none h'] at h
theorem bcell {W w1 : World} (hb : Below W.heap.size W w1) : (∀ b o, b < W.heap.size → w1.cell? ⟨b, o, none⟩ = W.cell? ⟨b, o, none⟩) ∧ (∀ b o, b < W.heap.size → w1.frozen? ⟨b, o, none⟩ = W.frozen? ⟨b, o, none⟩) :=
  ⟨fun b o h => hb.cell (p := ⟨b, o, none⟩) h, fun b o h => hb.frozen (p := ⟨b, o, none⟩) h⟩
theorem below_of_drewN (w : World) (q : Nat) : Below w.heap.size w (w.drewN q) := below_drewN (Below.refl _ _) q

/-- Every block of cells of a type other than T0, but those of S, is as it was. -/
structure KeepT (T0 : TypeId) (S : Nat → Prop) (w w' : World) : Prop where
  os : w'.os = w.os
  tape : w'.tape = w.tape
  output : w'.output = w.output
  size : w.heap.size ≤ w'.heap.size
  cells : ∀ k c T fr, w.heap[k]? = some (.cells c T fr) → T ≠ T0 → ¬ S k → w'.heap[k]? = some (.cells c T fr)
theorem KeepT.refl (T0 : TypeId) (S : Nat → Prop) (w : World) : KeepT T0 S w w := ⟨rfl, rfl, rfl, Nat.le_refl _, fun _ _ _ _ h _ _ => h⟩
theorem KeepT.trans {T0 : TypeId} {S : Nat → Prop} {a b c : World} (h : KeepT T0 S a b) (k : KeepT T0 S b c) : KeepT T0 S a c :=
  ⟨k.os.trans h.os, k.tape.trans h.tape, k.output.trans h.output, Nat.le_trans h.size k.size, fun i x T fr hi ht hs => k.cells i x T fr (h.cells i x T fr hi ht hs) ht hs⟩
theorem KeepT.of_below {T0 : TypeId} {S : Nat → Prop} {w w' : World} (h : Below w.heap.size w w') : KeepT T0 S w w' :=
  ⟨h.os, h.tape, h.output, h.size, fun k _ _ _ hk _ _ => (h.block k (lt_of_block hk)).trans hk⟩
theorem KeepT.setCell {T0 : TypeId} {S : Nat → Prop} {a w : World} (h : KeepT T0 S a w) {p : Addr} (hp : S p.block) (v : Value) : KeepT T0 S a (w.setCell p v) :=
  h.trans ⟨rfl, rfl, rfl, by simp [World.setCell], fun k _ _ _ hk _ hs => (Below.heap_setCell _ p v k (fun e => hs (by rw [e]; exact hp))).trans hk⟩
theorem KeepT.setNew {T0 : TypeId} {S : Nat → Prop} {a w : World} (h : KeepT T0 S a w) {p : Addr} (hp : a.heap.size ≤ p.block) (v : Value) : KeepT T0 S a (w.setCell p v) :=
  ⟨h.os, h.tape, h.output, by simpa [World.setCell] using h.size, fun k c T fr hk ht hs => (Below.heap_setCell _ p v k (fun e => by have := lt_of_block hk; omega)).trans (h.cells k c T fr hk ht hs)⟩
theorem KeepT.alloc {T0 : TypeId} {S : Nat → Prop} {a w : World} (h : KeepT T0 S a w) (o : Obj) : KeepT T0 S a (w.alloc o) := h.trans (KeepT.of_below ((Below.refl _ w).alloc (Nat.le_refl _) o))
theorem KeepT.drew {T0 : TypeId} {S : Nat → Prop} {a w : World} (h : KeepT T0 S a w) : KeepT T0 S a w.drew := h.trans (KeepT.of_below (Below.refl _ w).drew)
theorem KeepT.grown {T0 : TypeId} {S : Nat → Prop} {a w w' : World} {row : Option Nat} (h : KeepT T0 S a w) (hg : w.grownBy w' row) (hr : ∀ k, row = some k → (∃ c fr, w.heap[k]? = some (.cells c T0 fr)) ∨ a.heap.size ≤ k) : KeepT T0 S a w' :=
  ⟨hg.os.trans h.os, hg.tape.trans h.tape, hg.output.trans h.output, Nat.le_trans h.size hg.size, fun k c T fr hk ht hs => by
    have h1 := h.cells k c T fr hk ht hs
    refine (hg.block k (lt_of_block h1) (fun e => ?_)).trans h1
    rcases hr k e.symm with ⟨c', fr', h'⟩ | h'
    · rw [h1] at h'; simp at h'; exact ht h'.2.1
    · have := lt_of_block hk; omega⟩
theorem KeepT.putObj {T0 : TypeId} {S : Nat → Prop} (W : World) (l : Nat) (o o' : Obj) (h : W.heap[l]? = some o) (ho : o.isCells = false) : KeepT T0 S W (W.putObj l o') :=
  let g := grownBy_putObj' W l o'
  ⟨g.os, g.tape, g.output, g.size, fun k c T fr hk _ _ => (g.block k (lt_of_block hk) (fun e => by cases e; rw [h] at hk; cases hk; cases ho)).trans hk⟩
theorem Blk.keepT {T0 : TypeId} {S : Nat → Prop} {w w' : World} {b : Nat} {T : TypeId} {xs : List Value} (h : Blk w b T xs) (hk : KeepT T0 S w w') (hT : T ≠ T0) (hS : ¬ S b) : Blk w' b T xs := hk.cells b _ T _ h hT hS
theorem grownBy_of_below {w w' : World} (h : Below w.heap.size w w') : w.grownBy w' none := ⟨h.os, h.tape, h.output, h.size, fun k hk _ => h.block k hk⟩

end Go.Proofs.YtgaififhhffpfaaGreatDoor
