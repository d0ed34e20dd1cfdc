/- A block of memory known whole: its cells, that they may be written, what a store and a new block leave of it. No program stands here. A guest's memory that lies in a host's: what the program's two memories hold, and the contracts of guest.Mem's Get and Set. Entries of tables: what pte.Get makes of a word. What may be done, and the place of a page in a table. -/
import Derived.WalkKit
import Derived.Deep.Draws
import Derived.RangeFuncNested
import Derived.Test.YtglohconhbcchaaGreatDoorChecked
import Derived.WalkLawsBesides
import Derived.Handy
import Derived.Deep.QuietTactic
import Derived.BigQuiet
import Derived.StillTailTactics
import Derived.Outline
import Derived.Lib.Hide
namespace Go.Proofs.YtglohconhbcchaaGreatDoor
open Go.RowKit

/-- Block b holds just the cells xs, of element type T, none of them frozen. -/
def Blk (w : World) (b : Nat) (T : TypeId) (xs : List Value) : Prop := w.heap[b]? = some (.cells xs.toArray T (0, 0))

theorem Blk.lt {w : World} {b : Nat} {T : TypeId} {xs : List Value} (h : Blk w b T xs) : b < w.heap.size := lt_of_block h
theorem Blk.cell {w : World} {b : Nat} {T : TypeId} {xs : List Value} (h : Blk w b T xs) {k : Nat} {v : Value} (hk : xs[k]? = some v) : w.cell? ⟨b, k, none⟩ = some v := by
  unfold Blk at h; simp [World.cell?, h, hk]
theorem Blk.cellD {w : World} {b : Nat} {T : TypeId} {xs : List Value} (h : Blk w b T xs) (k : Nat) (hk : k < xs.length) (d : Value) : w.cell? ⟨b, k, none⟩ = some (xs.getD k d) :=
  h.cell (by simp [List.getD, List.getElem?_eq_getElem hk])
theorem Blk.free {w : World} {b : Nat} {T : TypeId} {xs : List Value} (h : Blk w b T xs) (k : Nat) : w.frozen? ⟨b, k, none⟩ = false := by
  unfold Blk at h; simp [World.frozen?, h]
theorem Blk.inj {w : World} {b : Nat} {T T' : TypeId} {xs ys : List Value} (h : Blk w b T xs) (h' : Blk w b T' ys) : xs = ys ∧ T = T' := by
  unfold Blk at h h'; rw [h] at h'; simp at h'; exact h'
theorem Blk.of_heap {w w' : World} {b : Nat} {T : TypeId} {xs : List Value} (h : Blk w b T xs) (he : w'.heap[b]? = w.heap[b]?) : Blk w' b T xs := by
  unfold Blk at *; rw [he, h]
theorem Blk.below {w w' : World} {B b : Nat} {T : TypeId} {xs : List Value} (h : Blk w b T xs) (hb : Below B w w') (hB : b < B) : Blk w' b T xs :=
  h.of_heap (hb.block b hB)
theorem Blk.past {w w' : World} {b : Nat} {T : TypeId} {xs : List Value} (h : Blk w b T xs) (hb : Below w.heap.size w w') : Blk w' b T xs :=
  h.below hb h.lt
theorem Blk.drewN {w : World} {b : Nat} {T : TypeId} {xs : List Value} (h : Blk w b T xs) (n : Nat) : Blk (w.drewN n) b T xs := h
theorem Blk.drew {w : World} {b : Nat} {T : TypeId} {xs : List Value} (h : Blk w b T xs) : Blk w.drew b T xs := h
theorem Blk.alloc {w : World} {b : Nat} {T : TypeId} {xs : List Value} (h : Blk w b T xs) (o : Obj) : Blk (w.alloc o) b T xs :=
  h.of_heap (Below.heap_alloc _ _ _ h.lt)
theorem Blk.new (w : World) (T : TypeId) (xs : List Value) : Blk (w.alloc (.cells xs.toArray T (0, 0))) w.heap.size T xs :=
  by show (w.heap.push _)[w.heap.size]? = _; exact Array.getElem?_push_size
theorem Blk.other {w : World} {b : Nat} {T : TypeId} {xs : List Value} (h : Blk w b T xs) {a : Addr} (ha : b ≠ a.block) (v : Value) : Blk (w.setCell a v) b T xs :=
  h.of_heap (Below.heap_setCell _ _ _ _ ha)
theorem Blk.set {w : World} {b : Nat} {T : TypeId} {xs : List Value} (h : Blk w b T xs) (k : Nat) (v : Value) : Blk (w.setCell ⟨b, k, none⟩ v) b T (xs.set k v) := by
  have hlt := h.lt
  unfold Blk at *
  have h' : w.heap[b] = .cells xs.toArray T (0, 0) := by simpa [Array.getElem?_eq_getElem hlt] using h
  show (w.heap.modify b _)[b]? = _
  rw [Array.getElem?_eq_getElem (by simpa using hlt), Array.getElem_modify_self, h']
  simp

/-- What a call may have turned of what lay below B: the blocks of S alone. -/
structure Kept (B : Nat) (S : Nat → Prop) (w w' : World) : Prop where
  os : w'.os = w.os
  tape : w'.tape = w.tape
  output : w'.output = w.output
  size : w.heap.size ≤ w'.heap.size
  block : ∀ k, k < B → ¬ S k → w'.heap[k]? = w.heap[k]?

theorem Kept.refl (B : Nat) (S : Nat → Prop) (w : World) : Kept B S w w := ⟨rfl, rfl, rfl, Nat.le_refl _, fun _ _ _ => rfl⟩
theorem Kept.trans {B : Nat} {S : Nat → Prop} {a b c : World} (h : Kept B S a b) (k : Kept B S b c) : Kept B S a c :=
  ⟨k.os.trans h.os, k.tape.trans h.tape, k.output.trans h.output, Nat.le_trans h.size k.size, fun i hi hs => (k.block i hi hs).trans (h.block i hi hs)⟩
theorem Kept.mono {B B' : Nat} {S S' : Nat → Prop} {w w' : World} (h : Kept B S w w') (hB : B' ≤ B) (hS : ∀ k, k < B' → S k → S' k) : Kept B' S' w w' :=
  ⟨h.os, h.tape, h.output, h.size, fun k hk hs => h.block k (Nat.lt_of_lt_of_le hk hB) (fun e => hs (hS k hk e))⟩
theorem Kept.of_below {B : Nat} {S : Nat → Prop} {w w' : World} (h : Below B w w') : Kept B S w w' := ⟨h.os, h.tape, h.output, h.size, fun k hk _ => h.block k hk⟩
theorem Kept.below {B : Nat} {S : Nat → Prop} {w w' : World} (h : Kept B S w w') (hS : ∀ k, k < B → ¬ S k) : Below B w w' := ⟨h.os, h.tape, h.output, h.size, fun k hk => h.block k hk (hS k hk)⟩
theorem Kept.drewN {B : Nat} {S : Nat → Prop} {a w : World} (h : Kept B S a w) (n : Nat) : Kept B S a (w.drewN n) := ⟨h.os, h.tape, h.output, h.size, h.block⟩
theorem Kept.alloc {B : Nat} {S : Nat → Prop} {a w : World} (h : Kept B S a w) (hB : B ≤ w.heap.size) (o : Obj) : Kept B S a (w.alloc o) :=
  h.trans (Kept.of_below ((Below.refl B w).alloc hB o))
theorem Kept.setCell {B : Nat} {S : Nat → Prop} {a w : World} (h : Kept B S a w) {p : Addr} (hp : S p.block ∨ B ≤ p.block) (v : Value) : Kept B S a (w.setCell p v) :=
  h.trans ⟨rfl, rfl, rfl, by simp [World.setCell], fun k hk hs => Below.heap_setCell _ _ _ _ (fun e => by
    rcases hp with hp | hp
    · exact hs (e ▸ hp)
    · omega)⟩
theorem Blk.kept {w w' : World} {B b : Nat} {S : Nat → Prop} {T : TypeId} {xs : List Value} (h : Blk w b T xs) (hk : Kept B S w w') (hB : b < B) (hS : ¬ S b) : Blk w' b T xs :=
  h.of_heap (hk.block b hB hS)
theorem below_drewN {B : Nat} {a w : World} (h : Below B a w) (n : Nat) : Below B a (w.drewN n) := ⟨h.os, h.tape, h.output, h.size, h.block⟩

theorem lt_of_cell {w : World} {b o : Nat} {v : Value} (h : w.cell? ⟨b, o, none⟩ = some v) : b < w.heap.size := by
  rcases Nat.lt_or_ge b w.heap.size with h' | h'
  · exact h'
  · simp [World.cell?, Array.getElem?_eq_none h'] at h
theorem bcell {W w1 : World} (hb : Below W.heap.size W w1) : (∀ b o, b < W.heap.size → w1.cell? ⟨b, o, none⟩ = W.cell? ⟨b, o, none⟩) ∧ (∀ b o, b < W.heap.size → w1.frozen? ⟨b, o, none⟩ = W.frozen? ⟨b, o, none⟩) :=
  ⟨fun b o h => hb.cell (p := ⟨b, o, none⟩) h, fun b o h => hb.frozen (p := ⟨b, o, none⟩) h⟩
theorem below_of_drewN (w : World) (q : Nat) : Below w.heap.size w (w.drewN q) := below_drewN (Below.refl _ _) q

/-- Every block of cells of a type other than T0, but those of S, is as it was. -/
structure KeepT (T0 : TypeId) (S : Nat → Prop) (w w' : World) : Prop where
  os : w'.os = w.os
  tape : w'.tape = w.tape
  output : w'.output = w.output
  size : w.heap.size ≤ w'.heap.size
  cells : ∀ k c T fr, w.heap[k]? = some (.cells c T fr) → T ≠ T0 → ¬ S k → w'.heap[k]? = some (.cells c T fr)
theorem KeepT.refl (T0 : TypeId) (S : Nat → Prop) (w : World) : KeepT T0 S w w := ⟨rfl, rfl, rfl, Nat.le_refl _, fun _ _ _ _ h _ _ => h⟩
theorem KeepT.trans {T0 : TypeId} {S : Nat → Prop} {a b c : World} (h : KeepT T0 S a b) (k : KeepT T0 S b c) : KeepT T0 S a c :=
  ⟨k.os.trans h.os, k.tape.trans h.tape, k.output.trans h.output, Nat.le_trans h.size k.size, fun i x T fr hi ht hs => k.cells i x T fr (h.cells i x T fr hi ht hs) ht hs⟩
theorem KeepT.of_below {T0 : TypeId} {S : Nat → Prop} {w w' : World} (h : Below w.heap.size w w') : KeepT T0 S w w' :=
  ⟨h.os, h.tape, h.output, h.size, fun k _ _ _ hk _ _ => (h.block k (lt_of_block hk)).trans hk⟩
theorem KeepT.setCell {T0 : TypeId} {S : Nat → Prop} {a w : World} (h : KeepT T0 S a w) {p : Addr} (hp : S p.block) (v : Value) : KeepT T0 S a (w.setCell p v) :=
  h.trans ⟨rfl, rfl, rfl, by simp [World.setCell], fun k _ _ _ hk _ hs => (Below.heap_setCell _ p v k (fun e => hs (by rw [e]; exact hp))).trans hk⟩
theorem KeepT.setNew {T0 : TypeId} {S : Nat → Prop} {a w : World} (h : KeepT T0 S a w) {p : Addr} (hp : a.heap.size ≤ p.block) (v : Value) : KeepT T0 S a (w.setCell p v) :=
  ⟨h.os, h.tape, h.output, by simpa [World.setCell] using h.size, fun k c T fr hk ht hs => (Below.heap_setCell _ p v k (fun e => by have := lt_of_block hk; omega)).trans (h.cells k c T fr hk ht hs)⟩
theorem KeepT.alloc {T0 : TypeId} {S : Nat → Prop} {a w : World} (h : KeepT T0 S a w) (o : Obj) : KeepT T0 S a (w.alloc o) := h.trans (KeepT.of_below ((Below.refl _ w).alloc (Nat.le_refl _) o))
theorem KeepT.drew {T0 : TypeId} {S : Nat → Prop} {a w : World} (h : KeepT T0 S a w) : KeepT T0 S a w.drew := h.trans (KeepT.of_below (Below.refl _ w).drew)
theorem KeepT.grown {T0 : TypeId} {S : Nat → Prop} {a w w' : World} {row : Option Nat} (h : KeepT T0 S a w) (hg : w.grownBy w' row) (hr : ∀ k, row = some k → (∃ c fr, w.heap[k]? = some (.cells c T0 fr)) ∨ a.heap.size ≤ k) : KeepT T0 S a w' :=
  ⟨hg.os.trans h.os, hg.tape.trans h.tape, hg.output.trans h.output, Nat.le_trans h.size hg.size, fun k c T fr hk ht hs => by
    have h1 := h.cells k c T fr hk ht hs
    refine (hg.block k (lt_of_block h1) (fun e => ?_)).trans h1
    rcases hr k e.symm with ⟨c', fr', h'⟩ | h'
    · rw [h1] at h'; simp at h'; exact ht h'.2.1
    · have := lt_of_block hk; omega⟩
theorem KeepT.putObj {T0 : TypeId} {S : Nat → Prop} (W : World) (l : Nat) (o o' : Obj) (h : W.heap[l]? = some o) (ho : o.isCells = false) : KeepT T0 S W (W.putObj l o') :=
  let g := grownBy_putObj' W l o'
  ⟨g.os, g.tape, g.output, g.size, fun k c T fr hk _ _ => (g.block k (lt_of_block hk) (fun e => by cases e; rw [h] at hk; cases hk; cases ho)).trans hk⟩
theorem Blk.keepT {T0 : TypeId} {S : Nat → Prop} {w w' : World} {b : Nat} {T : TypeId} {xs : List Value} (h : Blk w b T xs) (hk : KeepT T0 S w w') (hT : T ≠ T0) (hS : ¬ S b) : Blk w' b T xs := hk.cells b _ T _ h hT hS
theorem grownBy_of_below {w w' : World} (h : Below w.heap.size w w') : w.grownBy w' none := ⟨h.os, h.tape, h.output, h.size, fun k hk _ => h.block k hk⟩

end Go.Proofs.YtglohconhbcchaaGreatDoor

namespace Go.Proofs.YtglohconhbcchaaGreatDoor
open Go.RowKit

def u64 (v : Nat) : Value := .int .u64 (v : Int)
def i64 (v : Nat) : Value := .int .i64 (v : Int)

/-- A host's memory at fp: n frames in block fb, whose words are mem. -/
structure Host (w : World) (fp fb n : Nat) (mem : List Nat) : Prop where
  hdr : Blk w fp 197 [.slice (some ⟨fb, 0, none⟩) n n]
  row : Blk w fb 247 (mem.map u64)
  len : mem.length = 8 * n
  small : n ≤ 256
  bd : ∀ v, v ∈ mem → v < 2 ^ 64

/-- A guest's memory at p: map gp (its list in block hb, its table the map mb), host's memory fp. -/
structure Guest (w : World) (p gp hb mb fp : Nat) (hosts : List Nat) (cap n : Nat) : Prop where
  hdr : Blk w p 203 [.pointer (some ⟨gp, 0, none⟩), .pointer (some ⟨fp, 0, none⟩)]
  gm : Blk w gp 200 [.slice (some ⟨hb, 0, none⟩) hosts.length cap, .map (some mb)]
  row : ∃ sp, Blk w hb 3 (hosts.map i64 ++ sp)
  len : hosts.length ≤ 64
  bd : ∀ h, h ∈ hosts → h < n

/-- where a guest's word lies in its host's words -/
def place (hosts : List Nat) (g i : Int) : Option Nat :=
  if 0 ≤ g ∧ g < hosts.length ∧ 0 ≤ i ∧ i < 8 then (hosts[g.toNat]?).map (fun h => 8 * h + i.toNat) else none
def rd (hosts mem : List Nat) (g i : Int) : Option Nat := (place hosts g i).bind fun k => mem[k]?

theorem get_yes (w : World) (p gp hb mb fp fb : Nat) (hosts mem : List Nat) (cap n g i : Nat) (H : Host w fp fb n mem) (G : Guest w p gp hb mb fp hosts cap n)
    (hg : g < hosts.length) (hi : i < 8) :
    Calls Tryz.prog 74 #[.pointer (some ⟨p, 0, none⟩), .int .i64 (g : Int), .int .i64 (i : Int)] w
      fun e w' => e = .returned (.tuple #[.int .u64 ((mem.getD (8 * hosts.getD g 0 + i) 0 : Nat) : Int), .bool true]) ∧ w = w' := by
  obtain ⟨h1, h2, h3, hn, h5⟩ := H
  obtain ⟨g1, g2, ⟨sp, g3⟩, g4, g5⟩ := G
  have a1 := h1.cell (k := 0) rfl
  have b1 := g1.cell (k := 0) rfl
  have b2 := g1.cell (k := 1) rfl
  have c1 := g2.cell (k := 0) rfl
  obtain ⟨h, hh⟩ : ∃ h, hosts.getD g 0 = h := ⟨_, rfl⟩
  have hlt : h < n := by rw [← hh]; exact g5 _ (by simp [List.getD, List.getElem?_eq_getElem hg])
  have d1 : w.cell? ⟨hb, g, none⟩ = some (.int .i64 (h : Int)) := g3.cell (by rw [List.getElem?_append_left (by simpa using hg)]; simp [List.getElem?_eq_getElem hg, i64, ← hh, List.getD])
  have d2 : w.cell? ⟨fb, h * 8 + i, none⟩ = some (.int .u64 ((mem.getD (8 * h + i) 0 : Nat) : Int)) := h2.cell (by
    have : h * 8 + i < mem.length := by omega
    rw [Nat.mul_comm 8 h]; simp [List.getElem?_eq_getElem this, u64, List.getD])
  rw [hh]; clear hh h1 h2 h3 g1 g2 g3 h5 g5
  go_enter Tryz.func74, Tryz.ntmps74
  go_wp2
  go_ret2
  exact ⟨rfl, rfl⟩

theorem some_getD {l : List Nat} {k : Nat} (h : k < l.length) : l[k]? = some (l.getD k 0) := by
  rw [List.getD, List.getElem?_eq_getElem h]; rfl

theorem place_lt {hosts mem : List Nat} {n : Nat} (hl : mem.length = 8 * n) (hb : ∀ h, h ∈ hosts → h < n) {g i : Int} {k : Nat} (h : place hosts g i = some k) : k < mem.length := by
  unfold place at h
  split at h
  · rename_i hc
    obtain ⟨h0, h1, h2, h3⟩ := hc
    have hlt : g.toNat < hosts.length := by omega
    rw [List.getElem?_eq_getElem hlt] at h
    simp at h
    have := hb _ (List.getElem_mem hlt)
    omega
  · simp at h

theorem get_no (w : World) (p gp hb mb fp fb : Nat) (hosts mem : List Nat) (cap n : Nat) (g i : Int) (H : Host w fp fb n mem) (G : Guest w p gp hb mb fp hosts cap n)
    (hn : ¬ (0 ≤ g ∧ g < hosts.length ∧ 0 ≤ i ∧ i < 8)) :
    Calls Tryz.prog 74 #[.pointer (some ⟨p, 0, none⟩), .int .i64 g, .int .i64 i] w
      fun e w' => e = .returned (.tuple #[.int .u64 0, .bool false]) ∧ w = w' := by
  obtain ⟨h1, h2, h3, hn', h5⟩ := H
  obtain ⟨g1, g2, ⟨sp, g3⟩, g4, g5⟩ := G
  have a1 := h1.cell (k := 0) rfl
  have b1 := g1.cell (k := 0) rfl
  have b2 := g1.cell (k := 1) rfl
  have c1 := g2.cell (k := 0) rfl
  by_cases ha : g < 0
  · clear h1 h2 h3 g1 g2 g3 h5 g5 hn
    go_enter Tryz.func74, Tryz.ntmps74
    go_wp2
    go_ret2
    exact ⟨rfl, rfl⟩
  · obtain ⟨g, rfl⟩ := Int.eq_ofNat_of_zero_le (by omega : 0 ≤ g)
    by_cases hb' : hosts.length ≤ g
    · clear h1 h2 h3 g1 g2 g3 h5 g5 hn ha
      go_enter Tryz.func74, Tryz.ntmps74
      go_wp2
      go_ret2
      exact ⟨rfl, rfl⟩
    · have hg : g < hosts.length := by omega
      obtain ⟨h, hh⟩ : ∃ h, hosts.getD g 0 = h := ⟨_, rfl⟩
      have hlt : h < n := by rw [← hh]; exact g5 _ (by simp [List.getD, List.getElem?_eq_getElem hg])
      have d1 : w.cell? ⟨hb, g, none⟩ = some (.int .i64 (h : Int)) := g3.cell (by rw [List.getElem?_append_left (by simpa using hg)]; simp [List.getElem?_eq_getElem hg, i64, ← hh, List.getD])
      have hi : i < 0 ∨ 8 ≤ i := by omega
      clear hh h1 h2 h3 g1 g2 g3 h5 g5 hn ha hb'
      rcases hi with hi | hi
      · go_enter Tryz.func74, Tryz.ntmps74
        go_wp2
        go_ret2
        exact ⟨rfl, rfl⟩
      · go_enter Tryz.func74, Tryz.ntmps74
        go_wp2
        go_ret2
        exact ⟨rfl, rfl⟩

/-- guest.Mem's Get, at all arguments. -/
theorem get_any (w : World) (p gp hb mb fp fb : Nat) (hosts mem : List Nat) (cap n : Nat) (g i : Int) (H : Host w fp fb n mem) (G : Guest w p gp hb mb fp hosts cap n) :
    Calls Tryz.prog 74 #[.pointer (some ⟨p, 0, none⟩), .int .i64 g, .int .i64 i] w
      fun e w' => e = .returned (.tuple #[.int .u64 (((rd hosts mem g i).getD 0 : Nat) : Int), .bool (rd hosts mem g i).isSome]) ∧ w = w' := by
  by_cases hc : 0 ≤ g ∧ g < hosts.length ∧ 0 ≤ i ∧ i < 8
  · obtain ⟨h0, h1, h2, h3⟩ := hc
    obtain ⟨g, rfl⟩ := Int.eq_ofNat_of_zero_le h0
    obtain ⟨i, rfl⟩ := Int.eq_ofNat_of_zero_le h2
    have hg : g < hosts.length := by omega
    refine (get_yes w p gp hb mb fp fb hosts mem cap n g i H G hg (by omega)).mono ?_
    rintro e w' ⟨rfl, rfl⟩
    have hp : place hosts (g : Int) (i : Int) = some (8 * hosts.getD g 0 + i) := by
      unfold place; rw [if_pos ⟨h0, h1, h2, h3⟩]; simp [List.getElem?_eq_getElem hg, List.getD]
    have hl := place_lt H.len G.bd hp
    have hr : rd hosts mem (g : Int) (i : Int) = some (mem.getD (8 * hosts.getD g 0 + i) 0) := by
      unfold rd; rw [hp]; exact some_getD hl
    rw [hr]; exact ⟨rfl, rfl⟩
  · refine (get_no w p gp hb mb fp fb hosts mem cap n g i H G hc).mono ?_
    rintro e w' ⟨rfl, rfl⟩
    have hr : rd hosts mem g i = none := by unfold rd place; rw [if_neg hc]; rfl
    rw [hr]; exact ⟨rfl, rfl⟩

theorem get_open (w : World) (p gp hb mb fp fb : Nat) (hosts mem : List Nat) (cap n : Nat) (g i : Int) (o : Option Nat) (ho : rd hosts mem g i = o) (H : Host w fp fb n mem) (G : Guest w p gp hb mb fp hosts cap n) :
    Calls Tryz.prog 74 #[.pointer (some ⟨p, 0, none⟩), .int .i64 g, .int .i64 i] w
      fun e w' => e = .returned (.tuple #[.int .u64 ((o.getD 0 : Nat) : Int), .bool o.isSome]) ∧ w = w' := ho ▸ get_any w p gp hb mb fp fb hosts mem cap n g i H G
theorem rd_lt {hosts mem : List Nat} (hb : ∀ v, v ∈ mem → v < 2 ^ 64) (g i : Int) : (rd hosts mem g i).getD 0 < 2 ^ 64 := by
  unfold rd
  cases place hosts g i with
  | none => simp
  | some k =>
    simp only [Option.bind_some]
    cases h : mem[k]? with
    | none => simp
    | some v => exact hb v (List.mem_of_getElem? h)

/-- What the words are behind a Set, and whether it was one. -/
def wr (hosts mem : List Nat) (g i : Int) (v : Nat) : List Nat := match place hosts g i with | some k => mem.set k v | none => mem

theorem set_yes (w : World) (p gp hb mb fp fb : Nat) (hosts mem : List Nat) (cap n g i : Nat) (v : Nat) (H : Host w fp fb n mem) (G : Guest w p gp hb mb fp hosts cap n)
    (hg : g < hosts.length) (hi : i < 8) :
    Calls Tryz.prog 52 #[.pointer (some ⟨p, 0, none⟩), .int .i64 (g : Int), .int .i64 (i : Int), .int .u64 (v : Int)] w
      fun e w' => e = .returned (.bool true) ∧ w.setCell ⟨fb, hosts.getD g 0 * 8 + i, none⟩ (.int .u64 (v : Int)) = w' := by
  obtain ⟨h1, h2, h3, hn, h5⟩ := H
  obtain ⟨g1, g2, ⟨sp, g3⟩, g4, g5⟩ := G
  have a1 := h1.cell (k := 0) rfl
  have b1 := g1.cell (k := 0) rfl
  have b2 := g1.cell (k := 1) rfl
  have c1 := g2.cell (k := 0) rfl
  obtain ⟨h, hh⟩ : ∃ h, hosts.getD g 0 = h := ⟨_, rfl⟩
  have hlt : h < n := by rw [← hh]; exact g5 _ (by simp [List.getD, List.getElem?_eq_getElem hg])
  have d1 : w.cell? ⟨hb, g, none⟩ = some (.int .i64 (h : Int)) := g3.cell (by rw [List.getElem?_append_left (by simpa using hg)]; simp [List.getElem?_eq_getElem hg, i64, ← hh, List.getD])
  have d2 : w.cell? ⟨fb, h * 8 + i, none⟩ = some (.int .u64 ((mem.getD (8 * h + i) 0 : Nat) : Int)) := h2.cell (by
    have : h * 8 + i < mem.length := by omega
    rw [Nat.mul_comm 8 h]; simp [List.getElem?_eq_getElem this, u64, List.getD])
  have d3 := h2.free (h * 8 + i)
  rw [hh]; clear hh h1 h2 h3 g1 g2 g3 h5 g5
  go_enter Tryz.func52, Tryz.ntmps52
  go_wp2
  go_ret
  exact ⟨rfl, rfl⟩

theorem set_no (w : World) (p gp hb mb fp fb : Nat) (hosts mem : List Nat) (cap n : Nat) (g i : Int) (v : Nat) (H : Host w fp fb n mem) (G : Guest w p gp hb mb fp hosts cap n)
    (hn : ¬ (0 ≤ g ∧ g < hosts.length ∧ 0 ≤ i ∧ i < 8)) :
    Calls Tryz.prog 52 #[.pointer (some ⟨p, 0, none⟩), .int .i64 g, .int .i64 i, .int .u64 (v : Int)] w
      fun e w' => e = .returned (.bool false) ∧ w = w' := by
  obtain ⟨h1, h2, h3, hn', h5⟩ := H
  obtain ⟨g1, g2, ⟨sp, g3⟩, g4, g5⟩ := G
  have a1 := h1.cell (k := 0) rfl
  have b1 := g1.cell (k := 0) rfl
  have b2 := g1.cell (k := 1) rfl
  have c1 := g2.cell (k := 0) rfl
  by_cases ha : g < 0
  · clear h1 h2 h3 g1 g2 g3 h5 g5 hn
    go_enter Tryz.func52, Tryz.ntmps52
    go_wp2
    go_ret
    exact ⟨rfl, rfl⟩
  · obtain ⟨g, rfl⟩ := Int.eq_ofNat_of_zero_le (by omega : 0 ≤ g)
    by_cases hb' : hosts.length ≤ g
    · clear h1 h2 h3 g1 g2 g3 h5 g5 hn ha
      go_enter Tryz.func52, Tryz.ntmps52
      go_wp2
      go_ret
      exact ⟨rfl, rfl⟩
    · have hg : g < hosts.length := by omega
      obtain ⟨h, hh⟩ : ∃ h, hosts.getD g 0 = h := ⟨_, rfl⟩
      have hlt : h < n := by rw [← hh]; exact g5 _ (by simp [List.getD, List.getElem?_eq_getElem hg])
      have d1 : w.cell? ⟨hb, g, none⟩ = some (.int .i64 (h : Int)) := g3.cell (by rw [List.getElem?_append_left (by simpa using hg)]; simp [List.getElem?_eq_getElem hg, i64, ← hh, List.getD])
      have hi : i < 0 ∨ 8 ≤ i := by omega
      clear hh h1 h2 h3 g1 g2 g3 h5 g5 hn ha hb'
      rcases hi with hi | hi
      · go_enter Tryz.func52, Tryz.ntmps52
        go_wp2
        go_ret
        exact ⟨rfl, rfl⟩
      · go_enter Tryz.func52, Tryz.ntmps52
        go_wp2
        go_ret
        exact ⟨rfl, rfl⟩

theorem Host.kept {w w' : World} {fp fb n : Nat} {mem : List Nat} (H : Host w fp fb n mem) {B : Nat} {S : Nat → Prop} (hk : Kept B S w w') (h1 : fp < B) (h2 : fb < B) (s1 : ¬ S fp) (s2 : ¬ S fb) : Host w' fp fb n mem :=
  ⟨H.hdr.kept hk h1 s1, H.row.kept hk h2 s2, H.len, H.small, H.bd⟩
theorem Host.past {w w' : World} {fp fb n : Nat} {mem : List Nat} (H : Host w fp fb n mem) (hb : Below w.heap.size w w') : Host w' fp fb n mem :=
  ⟨H.hdr.past hb, H.row.past hb, H.len, H.small, H.bd⟩
theorem Guest.kept {w w' : World} {p gp hb mb fp : Nat} {hosts : List Nat} {cap n : Nat} (G : Guest w p gp hb mb fp hosts cap n) {B : Nat} {S : Nat → Prop} (hk : Kept B S w w') (h1 : p < B) (h2 : gp < B) (h3 : hb < B) (s1 : ¬ S p) (s2 : ¬ S gp) (s3 : ¬ S hb) : Guest w' p gp hb mb fp hosts cap n :=
  ⟨G.hdr.kept hk h1 s1, G.gm.kept hk h2 s2, G.row.imp fun _ h => h.kept hk h3 s3, G.len, G.bd⟩
theorem Guest.past {w w' : World} {p gp hb mb fp : Nat} {hosts : List Nat} {cap n : Nat} (G : Guest w p gp hb mb fp hosts cap n) (hk : Below w.heap.size w w') : Guest w' p gp hb mb fp hosts cap n :=
  ⟨G.hdr.past hk, G.gm.past hk, G.row.imp fun _ h => h.past hk, G.len, G.bd⟩

theorem Host.keepT {w w' : World} {fp fb n : Nat} {mem : List Nat} (H : Host w fp fb n mem) {S : Nat → Prop} (hk : KeepT 78 S w w') (s1 : ¬ S fp) (s2 : ¬ S fb) : Host w' fp fb n mem :=
  ⟨H.hdr.keepT hk (by decide) s1, H.row.keepT hk (by decide) s2, H.len, H.small, H.bd⟩
theorem Guest.keepT {w w' : World} {p gp hb mb fp : Nat} {hosts : List Nat} {cap n : Nat} (G : Guest w p gp hb mb fp hosts cap n) {S : Nat → Prop} (hk : KeepT 78 S w w') (s1 : ¬ S p) (s2 : ¬ S gp) (s3 : ¬ S hb) : Guest w' p gp hb mb fp hosts cap n :=
  ⟨G.hdr.keepT hk (by decide) s1, G.gm.keepT hk (by decide) s2, G.row.imp fun _ h => h.keepT hk (by decide) s3, G.len, G.bd⟩

/-- guest.Mem's Set, at all arguments. -/
theorem set_any (w : World) (p gp hb mb fp fb : Nat) (hosts mem : List Nat) (cap n : Nat) (g i : Int) (v : Nat) (hv : v < 2 ^ 64) (H : Host w fp fb n mem) (G : Guest w p gp hb mb fp hosts cap n)
    (n1 : fb ≠ fp) :
    Calls Tryz.prog 52 #[.pointer (some ⟨p, 0, none⟩), .int .i64 g, .int .i64 i, .int .u64 (v : Int)] w
      fun e w' => e = .returned (.bool (place hosts g i).isSome) ∧ Host w' fp fb n (wr hosts mem g i v) ∧ Kept w.heap.size (fun k => k = fb) w w' ∧ w'.heap.size = w.heap.size := by
  by_cases hc : 0 ≤ g ∧ g < hosts.length ∧ 0 ≤ i ∧ i < 8
  · obtain ⟨h0, h1, h2, h3⟩ := hc
    obtain ⟨g, rfl⟩ := Int.eq_ofNat_of_zero_le h0
    obtain ⟨i, rfl⟩ := Int.eq_ofNat_of_zero_le h2
    have hg : g < hosts.length := by omega
    refine (set_yes w p gp hb mb fp fb hosts mem cap n g i v H G hg (by omega)).mono ?_
    rintro e w' ⟨rfl, rfl⟩
    have hp : place hosts (g : Int) (i : Int) = some (8 * hosts.getD g 0 + i) := by
      unfold place; rw [if_pos ⟨h0, h1, h2, h3⟩]; simp [List.getElem?_eq_getElem hg, List.getD]
    refine ⟨by rw [hp]; rfl, ?_, (Kept.refl w.heap.size (fun k => k = fb) w).setCell (p := ⟨fb, hosts.getD g 0 * 8 + i, none⟩) (.inl rfl) _, by simp⟩
    have e : hosts.getD g 0 * 8 + i = 8 * hosts.getD g 0 + i := by omega
    refine ⟨H.hdr.other (Ne.symm n1) _, ?_, by unfold wr; rw [hp]; simpa using H.len, H.small, ?_⟩
    · have := H.row.set (hosts.getD g 0 * 8 + i) (u64 v)
      rw [e] at this
      unfold wr; rw [hp, e]; simpa [u64, List.map_set] using this
    · intro x hx
      unfold wr at hx; rw [hp] at hx
      rcases List.mem_or_eq_of_mem_set hx with h | h
      · exact H.bd x h
      · omega
  · refine (set_no w p gp hb mb fp fb hosts mem cap n g i v H G hc).mono ?_
    rintro e w' ⟨rfl, rfl⟩
    have hr : place hosts g i = none := by unfold place; rw [if_neg hc]
    refine ⟨by rw [hr]; rfl, ?_, Kept.refl _ _ _, rfl⟩
    unfold wr; rw [hr]; exact H
end Go.Proofs.YtglohconhbcchaaGreatDoor

namespace Go.Proofs.YtglohconhbcchaaGreatDoor
open Go.RowKit

theorem flags_any (w : World) (b : Nat) :
    Calls Tryz.prog 116 #[.pointer (some ⟨b, 0, none⟩)] w
      fun e w' => e = .returned (.agg #[.pointer (some ⟨b, 0, none⟩), .int .u64 1, .pointer (some ⟨b, 1, none⟩), .int .u64 2, .pointer (some ⟨b, 2, none⟩), .int .u64 4, .pointer (some ⟨b, 3, none⟩), .int .u64 32, .pointer (some ⟨b, 4, none⟩), .int .u64 64, .pointer (some ⟨b, 5, none⟩), .int .u64 128, .pointer (some ⟨b, 6, none⟩), .int .u64 9223372036854775808]) ∧ Below w.heap.size w w' := by
  go_enter Tryz.func116, Tryz.ntmps116
  go_wp2
  go_region
  all_goals go_wp2
  all_goals go_returns
  all_goals exact ⟨rfl, ((Below.refl _ _).alloc (Nat.le_refl _) _).drew⟩

/-- the flags' bits, in order -/
def fbit (k : Nat) : Nat := [1, 2, 4, 32, 64, 128, 9223372036854775808].getD k 0
def flg (v : Nat) (k : Nat) : Bool := bits .and .u64 (v : Int) (fbit k : Int) != 0
def rest (v : Nat) : Nat → Int
  | 0 => bits .andNot .u64 (v : Int) 4294963200
  | k + 1 => bits .andNot .u64 (rest v k) (fbit k : Int)
def fcell (v k j : Nat) : Value := .bool (if j < k then flg v j else false)
def pcells (v k : Nat) : List Value := [fcell v k 0, fcell v k 1, fcell v k 2, fcell v k 3, fcell v k 4, fcell v k 5, fcell v k 6, .bool false, .int .i64 0]
theorem pcells_set (v k : Nat) (hk : k < 7) : (pcells v k).set k (.bool (flg v k)) = pcells v (k + 1) := by
  match k, hk with
  | 0, _ => rfl
  | 1, _ => rfl
  | 2, _ => rfl
  | 3, _ => rfl
  | 4, _ => rfl
  | 5, _ => rfl
  | 6, _ => rfl
theorem pcells_at (v k : Nat) (hk : k < 7) : (pcells v k)[k]? = some (.bool false) := by
  match k, hk with
  | 0, _ => rfl
  | 1, _ => rfl
  | 2, _ => rfl
  | 3, _ => rfl
  | 4, _ => rfl
  | 5, _ => rfl
  | 6, _ => rfl
theorem flag_at0 (b : Nat) (w : World) : (Instr.index 212 (.agg #[.pointer (some ⟨b, 0, none⟩), .int .u64 1, .pointer (some ⟨b, 1, none⟩), .int .u64 2, .pointer (some ⟨b, 2, none⟩), .int .u64 4, .pointer (some ⟨b, 3, none⟩), .int .u64 32, .pointer (some ⟨b, 4, none⟩), .int .u64 64, .pointer (some ⟨b, 5, none⟩), .int .u64 128, .pointer (some ⟨b, 6, none⟩), .int .u64 9223372036854775808]) (.int .i64 0)).run Tryz.prog w = .ok (.agg #[.pointer (some ⟨b, 0, none⟩), .int .u64 1]) w := by kernel_rfl
theorem flag_at1 (b : Nat) (w : World) : (Instr.index 212 (.agg #[.pointer (some ⟨b, 0, none⟩), .int .u64 1, .pointer (some ⟨b, 1, none⟩), .int .u64 2, .pointer (some ⟨b, 2, none⟩), .int .u64 4, .pointer (some ⟨b, 3, none⟩), .int .u64 32, .pointer (some ⟨b, 4, none⟩), .int .u64 64, .pointer (some ⟨b, 5, none⟩), .int .u64 128, .pointer (some ⟨b, 6, none⟩), .int .u64 9223372036854775808]) (.int .i64 1)).run Tryz.prog w = .ok (.agg #[.pointer (some ⟨b, 1, none⟩), .int .u64 2]) w := by kernel_rfl
theorem flag_at2 (b : Nat) (w : World) : (Instr.index 212 (.agg #[.pointer (some ⟨b, 0, none⟩), .int .u64 1, .pointer (some ⟨b, 1, none⟩), .int .u64 2, .pointer (some ⟨b, 2, none⟩), .int .u64 4, .pointer (some ⟨b, 3, none⟩), .int .u64 32, .pointer (some ⟨b, 4, none⟩), .int .u64 64, .pointer (some ⟨b, 5, none⟩), .int .u64 128, .pointer (some ⟨b, 6, none⟩), .int .u64 9223372036854775808]) (.int .i64 2)).run Tryz.prog w = .ok (.agg #[.pointer (some ⟨b, 2, none⟩), .int .u64 4]) w := by kernel_rfl
theorem flag_at3 (b : Nat) (w : World) : (Instr.index 212 (.agg #[.pointer (some ⟨b, 0, none⟩), .int .u64 1, .pointer (some ⟨b, 1, none⟩), .int .u64 2, .pointer (some ⟨b, 2, none⟩), .int .u64 4, .pointer (some ⟨b, 3, none⟩), .int .u64 32, .pointer (some ⟨b, 4, none⟩), .int .u64 64, .pointer (some ⟨b, 5, none⟩), .int .u64 128, .pointer (some ⟨b, 6, none⟩), .int .u64 9223372036854775808]) (.int .i64 3)).run Tryz.prog w = .ok (.agg #[.pointer (some ⟨b, 3, none⟩), .int .u64 32]) w := by kernel_rfl
theorem flag_at4 (b : Nat) (w : World) : (Instr.index 212 (.agg #[.pointer (some ⟨b, 0, none⟩), .int .u64 1, .pointer (some ⟨b, 1, none⟩), .int .u64 2, .pointer (some ⟨b, 2, none⟩), .int .u64 4, .pointer (some ⟨b, 3, none⟩), .int .u64 32, .pointer (some ⟨b, 4, none⟩), .int .u64 64, .pointer (some ⟨b, 5, none⟩), .int .u64 128, .pointer (some ⟨b, 6, none⟩), .int .u64 9223372036854775808]) (.int .i64 4)).run Tryz.prog w = .ok (.agg #[.pointer (some ⟨b, 4, none⟩), .int .u64 64]) w := by kernel_rfl
theorem flag_at5 (b : Nat) (w : World) : (Instr.index 212 (.agg #[.pointer (some ⟨b, 0, none⟩), .int .u64 1, .pointer (some ⟨b, 1, none⟩), .int .u64 2, .pointer (some ⟨b, 2, none⟩), .int .u64 4, .pointer (some ⟨b, 3, none⟩), .int .u64 32, .pointer (some ⟨b, 4, none⟩), .int .u64 64, .pointer (some ⟨b, 5, none⟩), .int .u64 128, .pointer (some ⟨b, 6, none⟩), .int .u64 9223372036854775808]) (.int .i64 5)).run Tryz.prog w = .ok (.agg #[.pointer (some ⟨b, 5, none⟩), .int .u64 128]) w := by kernel_rfl
theorem flag_at6 (b : Nat) (w : World) : (Instr.index 212 (.agg #[.pointer (some ⟨b, 0, none⟩), .int .u64 1, .pointer (some ⟨b, 1, none⟩), .int .u64 2, .pointer (some ⟨b, 2, none⟩), .int .u64 4, .pointer (some ⟨b, 3, none⟩), .int .u64 32, .pointer (some ⟨b, 4, none⟩), .int .u64 64, .pointer (some ⟨b, 5, none⟩), .int .u64 128, .pointer (some ⟨b, 6, none⟩), .int .u64 9223372036854775808]) (.int .i64 6)).run Tryz.prog w = .ok (.agg #[.pointer (some ⟨b, 6, none⟩), .int .u64 9223372036854775808]) w := by kernel_rfl
theorem flag_at (b k : Nat) (hk : k < 7) (w : World) : (Instr.index 212 (.agg #[.pointer (some ⟨b, 0, none⟩), .int .u64 1, .pointer (some ⟨b, 1, none⟩), .int .u64 2, .pointer (some ⟨b, 2, none⟩), .int .u64 4, .pointer (some ⟨b, 3, none⟩), .int .u64 32, .pointer (some ⟨b, 4, none⟩), .int .u64 64, .pointer (some ⟨b, 5, none⟩), .int .u64 128, .pointer (some ⟨b, 6, none⟩), .int .u64 9223372036854775808]) (.int .i64 (k : Int))).run Tryz.prog w = .ok (.agg #[.pointer (some ⟨b, k, none⟩), .int .u64 (fbit k : Int)]) w := by
  match k, hk with
  | 0, _ => exact flag_at0 b w
  | 1, _ => exact flag_at1 b w
  | 2, _ => exact flag_at2 b w
  | 3, _ => exact flag_at3 b w
  | 4, _ => exact flag_at4 b w
  | 5, _ => exact flag_at5 b w
  | 6, _ => exact flag_at6 b w

theorem pget_raw (w : World) (v : Nat) :
    Calls Tryz.prog 62 #[.int .u64 (v : Int)] w
      fun e w' => e = .returned (.agg #[.bool (flg v 0), .bool (flg v 1), .bool (flg v 2), .bool (flg v 3), .bool (flg v 4), .bool (flg v 5), .bool (flg v 6), .bool (rest v 7 != 0), .int .i64 (wrap64 (bits .and .u64 ((v : Int) / 4096) 1048575))]) ∧ Below w.heap.size w w' := by
  go_enter Tryz.func62, Tryz.ntmps62
  go_wp2_with (go_at_call 116; refine (flags_any _ _).mono ?_; rintro e W ⟨rfl, hB⟩)
  have hidx := flag_at (w.heap.size + 1)
  have hb0 : Blk W w.heap.size 134 (pcells v 0) := ((Blk.new w 134 (pcells v 0)).alloc _).past hB
  have hb1 : Blk W (w.heap.size + 1) 134 (pcells v 0) := by
    have h := (Blk.new (w.alloc (.cells (pcells v 0).toArray 134)) 134 (pcells v 0)).past hB
    simpa using h
  have hBB : Below w.heap.size w W := (((Below.refl _ w).alloc (Nat.le_refl _) _).alloc (by simp) _).trans (hB.mono (by simp; omega))
  have hsz : w.heap.size + 1 < W.heap.size := by have := hb1.lt; exact this
  clear hB
  go_loopw [4, 10] (fun r i wr => ∃ k : Nat, k ≤ 7 ∧ i = .int .i64 k ∧ r = .int .u64 (rest v k) ∧ Blk wr (w.heap.size + 1) 134 (pcells v k) ∧ Blk wr w.heap.size 134 (pcells v 0) ∧ Below w.heap.size w wr) (fun _ i _ => 7 - (intOf i).toNat)
  case atStart => exact ⟨0, by omega, rfl, rfl, hb1, hb0, hBB⟩
  case round =>
    obtain ⟨k, hk, rfl, rfl, hr1, hr0, hrB⟩ := hrel
    clear hb0 hb1 hBB hsz
    have hlt1 := hr1.lt
    by_cases h7 : k < 7
    · have hi := hidx k h7
      have hc := hr1.cell (pcells_at v k h7)
      have hf := hr1.free k
      have hset := pcells_set v k h7
      clear hidx
      have Hset := Lib.hid hset
      clear hset
      go_wp2
      go_roundw
      case rel =>
        refine ⟨k + 1, by omega, by go_num, rfl, ?_, (hr0.other (by simp) _).alloc _, (hrB.setCell (by simp) _).alloc (by simp; exact hrB.size) _⟩
        have := hr1.set k (.bool (flg v k))
        rw [Hset.out] at this
        exact this.alloc _
      case measure => simp [intOf]; omega
    · obtain rfl : k = 7 := by omega
      clear hidx
      have f1 := fun k => hr1.free k
      have f0 := fun k => hr0.free k
      have hlt0 := hr0.lt
      have a0 := hr1.cell (k := 0) (v := .bool (flg v 0)) rfl
      have a1 := hr1.cell (k := 1) (v := .bool (flg v 1)) rfl
      have a2 := hr1.cell (k := 2) (v := .bool (flg v 2)) rfl
      have a3 := hr1.cell (k := 3) (v := .bool (flg v 3)) rfl
      have a4 := hr1.cell (k := 4) (v := .bool (flg v 4)) rfl
      have a5 := hr1.cell (k := 5) (v := .bool (flg v 5)) rfl
      have a6 := hr1.cell (k := 6) (v := .bool (flg v 6)) rfl
      have a7 := hr1.cell (k := 7) rfl
      have a8 := hr1.cell (k := 8) rfl
      have b0 := hr0.cell (k := 0) (v := .bool false) rfl
      have b1 := hr0.cell (k := 1) (v := .bool false) rfl
      have b2 := hr0.cell (k := 2) (v := .bool false) rfl
      have b3 := hr0.cell (k := 3) (v := .bool false) rfl
      have b4 := hr0.cell (k := 4) (v := .bool false) rfl
      have b5 := hr0.cell (k := 5) (v := .bool false) rfl
      have b6 := hr0.cell (k := 6) (v := .bool false) rfl
      have b7 := hr0.cell (k := 7) rfl
      have b8 := hr0.cell (k := 8) rfl
      go_wp2
      refine bodyPost_ret (v := .agg #[.bool (flg v 0), .bool (flg v 1), .bool (flg v 2), .bool (flg v 3), .bool (flg v 4), .bool (flg v 5), .bool (flg v 6), .bool (rest v 7 != 0), .int .i64 (wrap64 (bits .and .u64 ((v : Int) / 4096) 1048575))]) (by simp [results, Tryz.results62, go_sem, b0, b1, b2, b3, b4, b5, b6, b7, b8]) rfl ⟨rfl, ?_⟩
      go_grown

/-- An entry of a table. -/
structure Pte where
  p : Bool
  w : Bool
  u : Bool
  a : Bool
  d : Bool
  ps : Bool
  nx : Bool
  bad : Bool
  f : Nat
  deriving DecidableEq

def badMask : Nat := 9223372032559812376
def pte (v : Nat) : Pte := ⟨v.testBit 0, v.testBit 1, v.testBit 2, v.testBit 5, v.testBit 6, v.testBit 7, v.testBit 63, v &&& badMask != 0, v / 4096 % 1048576⟩
/-- an entry as a value -/
def Pte.val (e : Pte) : Array Value := #[.bool e.p, .bool e.w, .bool e.u, .bool e.a, .bool e.d, .bool e.ps, .bool e.nx, .bool e.bad, .int .i64 (e.f : Int)]

theorem flg_bit (v k : Nat) (n : Nat) (hv : v < 2 ^ 64) (h : fbit k = 2 ^ n) (hn : n < 64) : flg v k = v.testBit n := by
  unfold flg
  rw [h, u64_and_nat v (2 ^ n) (by omega) (Nat.lt_of_lt_of_le (Nat.pow_lt_pow_right (by decide) hn) (by decide)), nat_bit, Nat.testBit_eq_decide_div_mod_eq]
  have h2 : v / 2 ^ n % 2 = 0 ∨ v / 2 ^ n % 2 = 1 := by omega
  have hp : 2 ^ n ≠ 0 := by simp
  rcases h2 with h2 | h2 <;> rw [h2]
  · simp
  · simp
    exact_mod_cast hp
theorem rest_nat (v : Nat) (hv : v < 2 ^ 64) : rest v 7 = ((v &&& badMask : Nat) : Int) := by
  have e0 : rest v 0 = ((v &&& 18446744069414588415 : Nat) : Int) := u64_andNot_nat v 4294963200 (by omega) (by omega)
  have step : ∀ (k M M' b : Nat), rest v k = ((v &&& M : Nat) : Int) → fbit k = b → b < 18446744073709551616 → M &&& (18446744073709551615 - b) = M' → M < 18446744073709551616 → rest v (k + 1) = ((v &&& M' : Nat) : Int) := by
    intro k M M' b h1 h2 h3 h4 h5
    show bits .andNot .u64 (rest v k) (fbit k : Int) = _
    rw [h1, h2, u64_andNot_nat _ _ (Nat.lt_of_le_of_lt Nat.and_le_right h5) h3, Nat.and_assoc, h4]
  have e1 := step 0 _ 18446744069414588414 1 e0 rfl (by decide) (by decide) (by decide)
  have e2 := step 1 _ 18446744069414588412 2 e1 rfl (by decide) (by decide) (by decide)
  have e3 := step 2 _ 18446744069414588408 4 e2 rfl (by decide) (by decide) (by decide)
  have e4 := step 3 _ 18446744069414588376 32 e3 rfl (by decide) (by decide) (by decide)
  have e5 := step 4 _ 18446744069414588312 64 e4 rfl (by decide) (by decide) (by decide)
  have e6 := step 5 _ 18446744069414588184 128 e5 rfl (by decide) (by decide) (by decide)
  exact step 6 _ badMask 9223372036854775808 e6 rfl (by decide) (by decide) (by decide)
theorem frame_nat (v : Nat) (hv : v < 2 ^ 64) : wrap64 (bits .and .u64 ((v : Int) / 4096) 1048575) = ((v / 4096 % 1048576 : Nat) : Int) := by
  have h : bits .and .u64 ((v : Int) / 4096) 1048575 = ((v / 4096 &&& 1048575 : Nat) : Int) := by
    have := u64_and_nat (v / 4096) 1048575 (by omega) (by omega)
    rw [← this]; rfl
  rw [h, nat_mask20]
  unfold wrap64
  omega

theorem pget_any (w : World) (v : Nat) (hv : v < 2 ^ 64) :
    Calls Tryz.prog 62 #[.int .u64 (v : Int)] w
      fun e w' => e = .returned (.agg (pte v).val) ∧ Below w.heap.size w w' := by
  refine (pget_raw w v).mono ?_
  rintro e w' ⟨rfl, hb⟩
  refine ⟨?_, hb⟩
  rw [flg_bit v 0 0 hv rfl (by omega), flg_bit v 1 1 hv rfl (by omega), flg_bit v 2 2 hv rfl (by omega), flg_bit v 3 5 hv rfl (by omega), flg_bit v 4 6 hv rfl (by omega), flg_bit v 5 7 hv rfl (by omega), flg_bit v 6 63 hv rfl (by omega), rest_nat v hv, frame_nat v hv]
  have e : ((((v &&& badMask : Nat) : Int)) != 0) = (v &&& badMask != 0) := by
    rw [Bool.eq_iff_iff, bne_iff_ne, bne_iff_ne]; omega
  rw [e]
  rfl

theorem pget_open (w : World) (v : Nat) (e : Pte) (he : pte v = e) (hv : v < 2 ^ 64) :
    Calls Tryz.prog 62 #[.int .u64 (v : Int)] w
      fun r w' => r = .returned (.agg #[.bool e.p, .bool e.w, .bool e.u, .bool e.a, .bool e.d, .bool e.ps, .bool e.nx, .bool e.bad, .int .i64 (e.f : Int)]) ∧ Below w.heap.size w w' := he ▸ pget_any w v hv

end Go.Proofs.YtglohconhbcchaaGreatDoor

namespace Go.Proofs.YtglohconhbcchaaGreatDoor
open Go.RowKit

theorem i64_mask (n : Int) (k : Nat) (hk : k < 63) : bits .and .i64 n (((2 ^ k - 1 : Nat) : Int)) = n % ((2 ^ k : Nat) : Int) := by
  have hlt : 2 ^ k < 2 ^ 63 := Nat.pow_lt_pow_right (by decide) hk
  have hpos : 0 < 2 ^ k := Nat.pow_pos (by decide)
  have hm : (BitVec.ofInt 64 ((2 ^ k - 1 : Nat) : Int)).toNat = 2 ^ k - 1 := by
    rw [BitVec.toNat_ofInt]; omega
  have key : (BitVec.ofInt 64 n &&& BitVec.ofInt 64 ((2 ^ k - 1 : Nat) : Int)).toNat = (n % ((2 ^ 64 : Nat) : Int)).toNat % 2 ^ k := by
    rw [BitVec.toNat_and, BitVec.toNat_ofInt, hm, Nat.and_two_pow_sub_one_eq_mod]
  show IntKind.i64.wrap ((BitVec.ofInt 64 n &&& BitVec.ofInt 64 ((2 ^ k - 1 : Nat) : Int)).toNat : Nat) = _
  have hdvd : ((2 ^ k : Nat) : Int) ∣ ((2 ^ 64 : Nat) : Int) := Int.natCast_dvd_natCast.2 (Nat.pow_dvd_pow 2 (by omega))
  have e : (((n % ((2 ^ 64 : Nat) : Int)).toNat % 2 ^ k : Nat) : Int) = n % ((2 ^ k : Nat) : Int) := by
    rw [Int.natCast_emod, Int.toNat_of_nonneg (Int.emod_nonneg _ (by decide)), Int.emod_emod_of_dvd _ hdvd]
  have h1 : n % ((2 ^ k : Nat) : Int) < ((2 ^ k : Nat) : Int) := Int.emod_lt_of_pos _ (by omega)
  have h0 : 0 ≤ n % ((2 ^ k : Nat) : Int) := Int.emod_nonneg _ (by omega)
  rw [key, e, IntKind.wrap_i64]
  omega

theorem cut_any (n a : Int) (w : World) (ha : 0 ≤ a) (ha2 : a < 63) :
    Calls Tryz.prog 115 #[.int .i64 n, .int .i64 a, .int .i64 3] w fun e w' => e = .returned (.int .i64 (n / 2 ^ a.toNat % 8)) ∧ ∃ q, w' = w.drewN q := by
  go_enter Tryz.func115, Tryz.ntmps115
  go_wp2
  go_quiet (fail)
  go_wp2
  go_ret
  refine ⟨?_, _, rfl⟩
  have := i64_mask (n / 2 ^ a.toNat) 3 (by omega)
  exact congrArg (fun z => Ending.returned (Value.int .i64 z)) this

/-- the place of a page in its table of a level -/
def ix (page l : Int) : Int := if 1 ≤ l ∧ l ≤ 3 then page / 2 ^ ((l - 1) * 3).toNat % 8 else 0
theorem ix_bd (page l : Int) : 0 ≤ ix page l ∧ ix page l < 8 := by unfold ix; split <;> omega

theorem idx_any (n l : Int) (w : World) :
    Calls Tryz.prog 61 #[.int .i64 n, .int .i64 l] w fun e w' => e = .returned (.int .i64 (ix n l)) ∧ ∃ q, w' = w.drewN q := by
  unfold ix
  by_cases h : 1 ≤ l ∧ l ≤ 3
  · rw [if_pos h]
    obtain ⟨h1, h3⟩ := h
    have g1 : ¬ l < 1 := by omega
    have g3 : ¬ 3 < l := by omega
    go_enter Tryz.func61, Tryz.ntmps61
    go_wp2_with (go_at_call 115; refine (cut_any _ _ _ (by omega) (by omega)).mono ?_; rintro e w' ⟨rfl, q, rfl⟩)
    go_ret
    exact ⟨rfl, _, rfl⟩
  · rw [if_neg h]
    by_cases h1 : l < 1
    · go_enter Tryz.func61, Tryz.ntmps61
      go_wp2
      go_ret
      exact ⟨rfl, 0, rfl⟩
    · have g3 : 3 < l := by omega
      go_enter Tryz.func61, Tryz.ntmps61
      go_wp2
      go_ret
      exact ⟨rfl, 0, rfl⟩

theorem idx_bel (n l : Int) (w : World) :
    Calls Tryz.prog 61 #[.int .i64 n, .int .i64 l] w fun e w' => e = .returned (.int .i64 (ix n l)) ∧ Below w.heap.size w w' :=
  (idx_any n l w).mono fun _ _ ⟨h, q, e⟩ => ⟨h, e ▸ below_of_drewN w q⟩

/-- What may be done. -/
structure Rt where
  w : Bool
  u : Bool
  x : Bool
  deriving DecidableEq
def Rt.val (r : Rt) : Array Value := #[.bool r.w, .bool r.u, .bool r.x]
def Rt.all : Rt := ⟨true, true, true⟩
def Rt.meet (a b : Rt) : Rt := ⟨a.w && b.w, a.u && b.u, a.x && b.x⟩
def rtOf (e : Pte) : Rt := ⟨e.w, e.u, !e.nx⟩
def may (r : Rt) (kind : Int) (user : Bool) : Bool := (r.u || !user) && (if kind = 1 then r.w else if kind = 2 then r.x else decide (kind = 0))
def fcode (kind : Int) (user there bad : Bool) : Int := (if there then 1 else 0) + (if kind = 1 then 2 else 0) + (if user then 4 else 0) + (if there && bad then 8 else 0) + (if kind = 2 then 16 else 0)

theorem code_any (kind : Int) (user there bad : Bool) (w : World) :
    Calls Tryz.prog 122 #[.int .i64 kind, .bool user, .bool there, .bool bad] w fun e w' => e = .returned (.int .i64 (fcode kind user there bad)) ∧ w = w' := by
  by_cases h1 : kind = 1
  · subst h1
    cases user <;> cases there <;> cases bad <;>
    · go_enter Tryz.func122, Tryz.ntmps122
      go_wp2
      go_ret
      exact ⟨rfl, rfl⟩
  · by_cases h2 : kind = 2
    · subst h2
      cases user <;> cases there <;> cases bad <;>
      · go_enter Tryz.func122, Tryz.ntmps122
        go_wp2
        go_ret
        exact ⟨rfl, rfl⟩
    · have e1 : (kind == 1) = false := by simp [h1]
      have e2 : (kind == 2) = false := by simp [h2]
      cases user <;> cases there <;> cases bad <;>
      · go_enter Tryz.func122, Tryz.ntmps122
        go_wp2
        go_ret
        refine ⟨?_, rfl⟩
        simp only [fcode, if_neg h1, if_neg h2]
        rfl

theorem of_any (w : World) (e : Pte) :
    Calls Tryz.prog 64 #[.agg e.val] w fun r w' => r = .returned (.agg (rtOf e).val) ∧ Below w.heap.size w w' := by
  unfold Pte.val
  go_enter Tryz.func64, Tryz.ntmps64
  go_wp2
  refine bodyPost_ret (v := .agg #[.bool e.w, .bool e.u, .bool (!e.nx)]) (by simp [results, Tryz.results64, go_sem]) rfl ⟨rfl, ?_⟩
  go_grown

theorem may_any (w : World) (r : Rt) (kind : Int) (user : Bool) :
    Calls Tryz.prog 124 #[.agg r.val, .int .i64 kind, .bool user] w fun e w' => e = .returned (.bool (may r kind user)) ∧ Below w.heap.size w w' := by
  unfold Rt.val
  obtain ⟨rw', ru, rx⟩ := r
  by_cases h1 : kind = 1
  · subst h1
    cases user <;> cases ru <;> cases rw' <;>
    · go_enter Tryz.func124, Tryz.ntmps124
      go_wp2
      go_ret
      exact ⟨rfl, (Below.refl _ _).alloc (Nat.le_refl _) _⟩
  · by_cases h2 : kind = 2
    · subst h2
      cases user <;> cases ru <;> cases rx <;>
      · go_enter Tryz.func124, Tryz.ntmps124
        go_wp2
        go_ret
        exact ⟨rfl, (Below.refl _ _).alloc (Nat.le_refl _) _⟩
    · have e1 : (kind == 1) = false := by simp [h1]
      have e2 : (kind == 2) = false := by simp [h2]
      by_cases h0 : kind = 0
      · subst h0
        cases user <;> cases ru <;>
        · go_enter Tryz.func124, Tryz.ntmps124
          go_wp2
          go_ret
          exact ⟨rfl, (Below.refl _ _).alloc (Nat.le_refl _) _⟩
      · have e0 : (kind == 0) = false := by simp [h0]
        cases user <;> cases ru <;>
        · go_enter Tryz.func124, Tryz.ntmps124
          go_wp2
          go_ret
          refine ⟨?_, (Below.refl _ _).alloc (Nat.le_refl _) _⟩
          simp only [may, if_neg h1, if_neg h2, h0]
          rfl
end Go.Proofs.YtglohconhbcchaaGreatDoor
