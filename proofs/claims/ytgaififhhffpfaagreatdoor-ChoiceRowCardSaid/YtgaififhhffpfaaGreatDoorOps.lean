/- A slice of operations. -/
import Derived.Test.YtgaififhhffpfaaGreatDoorHead10
import Derived.Test.YtgaififhhffpfaaGreatDoorAll
namespace Go.Proofs.YtgaififhhffpfaaGreatDoor
open Go.RowKit Go.Shelf

def op0 : Op10 := ⟨0, 0, false, 0, 0, 0, 0, 0⟩
/-- the operations that a slice shows -/
def Ops (w : World) (a : Option Addr) (l : List Op10) : Prop :=
  l = [] ∨ ∃ b off, a = some ⟨b, off, none⟩ ∧ b < w.heap.size ∧ ∀ j, j < l.length → (l.getD j op0).ok ∧
    w.cell? ⟨b, off + j * 8, none⟩ = some (.int .i64 (l.getD j op0).what) ∧ w.cell? ⟨b, off + j * 8 + 1, none⟩ = some (.int .i64 (l.getD j op0).kind) ∧ w.cell? ⟨b, off + j * 8 + 2, none⟩ = some (.bool (l.getD j op0).user) ∧
    w.cell? ⟨b, off + j * 8 + 3, none⟩ = some (.int .u64 ((l.getD j op0).a : Int)) ∧ w.cell? ⟨b, off + j * 8 + 4, none⟩ = some (.int .u64 ((l.getD j op0).v : Int)) ∧ w.cell? ⟨b, off + j * 8 + 5, none⟩ = some (.int .i64 (l.getD j op0).g) ∧
    w.cell? ⟨b, off + j * 8 + 6, none⟩ = some (.int .i64 (l.getD j op0).i) ∧ w.cell? ⟨b, off + j * 8 + 7, none⟩ = some (.int .i64 (l.getD j op0).page)
theorem Ops.below {w w' : World} {a : Option Addr} {l : List Op10} (h : Ops w a l) (hb : Below w.heap.size w w') : Ops w' a l := by
  rcases h with h | ⟨b, off, h1, h2, h3⟩
  · exact .inl h
  · refine .inr ⟨b, off, h1, Nat.lt_of_lt_of_le h2 hb.size, fun j hj => ?_⟩
    obtain ⟨k, c0, c1, c2, c3, c4, c5, c6, c7⟩ := h3 j hj
    exact ⟨k, (hb.cell (p := ⟨b, _, none⟩) h2).trans c0, (hb.cell (p := ⟨b, _, none⟩) h2).trans c1, (hb.cell (p := ⟨b, _, none⟩) h2).trans c2, (hb.cell (p := ⟨b, _, none⟩) h2).trans c3,
      (hb.cell (p := ⟨b, _, none⟩) h2).trans c4, (hb.cell (p := ⟨b, _, none⟩) h2).trans c5, (hb.cell (p := ⟨b, _, none⟩) h2).trans c6, (hb.cell (p := ⟨b, _, none⟩) h2).trans c7⟩
theorem Ops.at {w : World} {a : Option Addr} {l : List Op10} (h : Ops w a l) (k : Nat) (hk : k < l.length) : ∃ b off what kind user x v g i page, a = some ⟨b, off, none⟩ ∧ b < w.heap.size ∧ l.getD k op0 = ⟨what, kind, user, x, v, g, i, page⟩ ∧ (x < 2 ^ 64 ∧ v < 2 ^ 64) ∧
    w.cell? ⟨b, off + k * 8, none⟩ = some (.int .i64 what) ∧ w.cell? ⟨b, off + k * 8 + 1, none⟩ = some (.int .i64 kind) ∧ w.cell? ⟨b, off + k * 8 + 2, none⟩ = some (.bool user) ∧
    w.cell? ⟨b, off + k * 8 + 3, none⟩ = some (.int .u64 (x : Int)) ∧ w.cell? ⟨b, off + k * 8 + 4, none⟩ = some (.int .u64 (v : Int)) ∧ w.cell? ⟨b, off + k * 8 + 5, none⟩ = some (.int .i64 g) ∧
    w.cell? ⟨b, off + k * 8 + 6, none⟩ = some (.int .i64 i) ∧ w.cell? ⟨b, off + k * 8 + 7, none⟩ = some (.int .i64 page) := by
  rcases h with h | ⟨b, off, h1, h2, h3⟩
  · rw [h] at hk; simp at hk
  · obtain ⟨ok, c⟩ := h3 k hk
    obtain ⟨o, ho⟩ : ∃ o, l.getD k op0 = o := ⟨_, rfl⟩
    rw [ho] at ok c
    obtain ⟨x0, x1, x2, x3, x4, x5, x6, x7⟩ := o
    exact ⟨b, off, x0, x1, x2, x3, x4, x5, x6, x7, h1, h2, ho, ok, c⟩
theorem do_open {B : Nat} {F : List Nat} {w : World} {p tp gp fb : Nat} {S : S10} (M : MM B F w p tp gp fb S) (hE : EC w) (h0 : 1 ≤ B) (hB : B ≤ w.heap.size) (what kind : Int) (user : Bool) (x v : Nat) (g i page : Int) (ho : x < 2 ^ 64 ∧ v < 2 ^ 64) :
    Calls Tryz.prog 17 #[.pointer (some ⟨p, 0, none⟩), .agg #[.int .i64 what, .int .i64 kind, .bool user, .int .u64 (x : Int), .int .u64 (v : Int), .int .i64 g, .int .i64 i, .int .i64 page]] w fun e w' =>
      e = .returned (doR S ⟨what, kind, user, x, v, g, i, page⟩).1.val ∧ Did B F w p tp gp fb (doR S ⟨what, kind, user, x, v, g, i, page⟩).2 w' := do_mm M hE h0 hB ⟨what, kind, user, x, v, g, i, page⟩ ho
theorem Stay.wd {F : List Nat} {w w' : World} (h : Stay F w w') {v : Value} {l : List Nat} (hv : Wd w v l) : Wd w' v l := by
  obtain ⟨b, c, rest, h1, h2⟩ := hv
  exact ⟨b, c, rest, h1, h.blk h2 ⟨by decide, by decide, by decide, by decide⟩⟩
theorem nat_u16 {v : Int} (h : (Lit.int .u16 v).wf = true) : ∃ n : Nat, v = (n : Int) ∧ n < 65536 := by
  simp [Lit.wf, IntKind.min, IntKind.max, IntKind.signed, IntKind.bits] at h
  exact ⟨v.toNat, by omega, by omega⟩
theorem nat_u8 {v : Int} (h : (Lit.int .u8 v).wf = true) : ∃ n : Nat, v = (n : Int) ∧ n < 256 := by
  simp [Lit.wf, IntKind.min, IntKind.max, IntKind.signed, IntKind.bits] at h
  exact ⟨v.toNat, by omega, by omega⟩
theorem nat_u64 {v : Int} (h : (Lit.int .u64 v).wf = true) : ∃ n : Nat, v = (n : Int) ∧ n < 2 ^ 64 := by
  simp [Lit.wf, IntKind.min, IntKind.max, IntKind.signed, IntKind.bits] at h
  exact ⟨v.toNat, by omega, by omega⟩
/-- a law's place in an op's round -/
structure Lw (w : World) (F : List Nat) (wr : World) (p tp gp fb : Nat) (S : S10) : Prop where
  m : MM w.heap.size F wr p tp gp fb S
  b : Below w.heap.size w wr
theorem Lw.past {w wr wr' : World} {F : List Nat} {p tp gp fb : Nat} {S : S10} (h : Lw w F wr p tp gp fb S) (hb : Below wr.heap.size wr wr') : Lw w F wr' p tp gp fb S := ⟨h.m.past hb, h.b.trans (hb.mono h.b.size)⟩
theorem Lw.did {w wr wr' : World} {F : List Nat} {p tp gp fb : Nat} {S S' : S10} (h : Lw w F wr p tp gp fb S) (D : Did w.heap.size F wr p tp gp fb S' wr') : Lw w F wr' p tp gp fb S' := ⟨D.1, h.b.trans D.2.1⟩
theorem Lw.ec {w wr : World} {F : List Nat} {p tp gp fb : Nat} {S : S10} (h : Lw w F wr p tp gp fb S) (hE : EC w) : EC wr := hE.past h.b
theorem Lw.all {w wr : World} {F : List Nat} {p tp gp fb : Nat} {S : S10} (h : Lw w F wr p tp gp fb S) : Calls Tryz.prog 40 #[.pointer (some ⟨gp, 0, none⟩)] wr
      fun e w' => (∃ v, e = .returned v ∧ Wd w' v S.mem) ∧ Below wr.heap.size wr w' := all_words wr gp fb S.mem h.m.gm h.m.len
theorem same_wd {w : World} {u v : Value} {mem : List Nat} (h1 : Wd w u mem) (h2 : Wd w v mem) (h128 : mem.length = 128) : Calls Tryz.prog 39 #[u, v] w
      fun e w' => e = .returned (.bool true) ∧ Below w.heap.size w w' := by
  have := same_words w u v mem mem h1 h2 h128 h128
  simpa using this
theorem join_bel (W : World) (n k r : Nat) (hr : joinOf n k = r) (hn : n < 512) (hk : k < 8) :
    Calls Tryz.prog 18 #[.int .i64 (n : Int), .int .i64 (k : Int)] W fun e w' => e = .returned (.int .u64 (r : Int)) ∧ Below W.heap.size W w' :=
  (join_any W n k r hr hn hk).mono fun _ _ h => ⟨h.1, h.2 ▸ Below.refl _ _⟩
end Go.Proofs.YtgaififhhffpfaaGreatDoor
