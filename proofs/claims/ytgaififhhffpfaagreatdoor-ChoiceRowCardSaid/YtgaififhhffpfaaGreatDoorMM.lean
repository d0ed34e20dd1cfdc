/- A model in a law's own world: what an operation comes to, and what stays. -/
import Derived.Test.YtgaififhhffpfaaGreatDoorMFind
namespace Go.Proofs.YtgaififhhffpfaaGreatDoor
open Go.RowKit Go.Shelf

/-- a model's state -/
structure S10 where
  mem : List Nat
  root : Int
  l : List Hit
/-- a model, its blocks all from B on; the blocks of F are no part of it -/
structure MM (B : Nat) (F : List Nat) (w : World) (p tp gp fb : Nat) (S : S10) : Prop where
  ex : ∃ v, MS w p tp gp fb v S.mem S.root S.l ∧ (∀ k, MSet p tp fb v k → B ≤ k) ∧ (∀ k, v.ownBlock = some k → k ∉ F)
  small : S.l.length ≤ 512
  low : ∀ k, k ∈ F → k < w.heap.size
/-- what stays -/
def Stay (F : List Nat) (w w' : World) : Prop :=
  w.heap.size ≤ w'.heap.size ∧ ∀ b T xs, Blk w b T xs → ((T ≠ 106 ∧ T ≠ 217 ∧ T ≠ 164 ∧ T ≠ 49) ∨ b ∈ F ∧ T = 49) → Blk w' b T xs
theorem Stay.trans {F : List Nat} {a b c : World} (h : Stay F a b) (k : Stay F b c) : Stay F a c :=
  ⟨Nat.le_trans h.1 k.1, fun q T xs hb hT => k.2 q T xs (h.2 q T xs hb hT) hT⟩
theorem Stay.of {F : List Nat} {w w' : World} (h : Below w.heap.size w w') : Stay F w w' := ⟨h.size, fun _ _ _ hb _ => hb.past h⟩
theorem Stay.blk {F : List Nat} {w w' : World} (h : Stay F w w') {b : Nat} {T : TypeId} {xs : List Value} (hb : Blk w b T xs) (hT : T ≠ 106 ∧ T ≠ 217 ∧ T ≠ 164 ∧ T ≠ 49) : Blk w' b T xs := h.2 b T xs hb (.inl hT)
theorem Stay.hit {F : List Nat} {w w' : World} (h : Stay F w w') {b : Nat} {xs : List Value} (hb : Blk w b 49 xs) (hF : b ∈ F) : Blk w' b 49 xs := h.2 b _ xs hb (.inr ⟨hF, rfl⟩)
theorem Stay.sl {F : List Nat} {w w' : World} (h : Stay F w w') {a : Option Addr} {q : List (Int × Int)} (hs : Sl w a q) : Sl w' a q := by
  rcases hs with e | ⟨b, rest, h1, h2⟩
  · exact .inl e
  · exact .inr ⟨b, rest, h1, h.blk h2 ⟨by decide, by decide, by decide, by decide⟩⟩
theorem MM.past {B : Nat} {F : List Nat} {w w' : World} {p tp gp fb : Nat} {S : S10} (h : MM B F w p tp gp fb S) (hb : Below w.heap.size w w') : MM B F w' p tp gp fb S := by
  obtain ⟨v, M, h1, h2⟩ := h.ex
  exact ⟨⟨v, M.past hb, h1, h2⟩, h.small, fun k hk => Nat.lt_of_lt_of_le (h.low k hk) hb.size⟩
theorem MM.gm {B : Nat} {F : List Nat} {w : World} {p tp gp fb : Nat} {S : S10} (h : MM B F w p tp gp fb S) : GM w gp fb h16 16 S.mem := by
  obtain ⟨v, M, _⟩ := h.ex; exact M.g
theorem MM.len {B : Nat} {F : List Nat} {w : World} {p tp gp fb : Nat} {S : S10} (h : MM B F w p tp gp fb S) : S.mem.length = 128 := by
  obtain ⟨v, M, _⟩ := h.ex; exact M.len
theorem MM.drop {B b : Nat} {F : List Nat} {w : World} {p tp gp fb : Nat} {S : S10} (h : MM B (b :: F) w p tp gp fb S) : MM B F w p tp gp fb S := by
  obtain ⟨v, M, h1, h2⟩ := h.ex
  exact ⟨⟨v, M, h1, fun k hk hm => h2 k hk (List.mem_cons_of_mem _ hm)⟩, h.small, fun k hk => h.low k (List.mem_cons_of_mem _ hk)⟩
/-- a new block is no part of the model -/
theorem MM.add {B : Nat} {F : List Nat} {w w' : World} {p tp gp fb b : Nat} {S : S10} (h : MM B F w p tp gp fb S) (hb : Below w.heap.size w w') (h0 : w.heap.size ≤ b) (h1 : b < w'.heap.size) : MM B (b :: F) w' p tp gp fb S := by
  obtain ⟨v, M, h2, h3⟩ := h.ex
  refine ⟨⟨v, M.past hb, h2, fun k hk hm => ?_⟩, h.small, fun k hk => ?_⟩
  · rcases List.mem_cons.1 hm with e | e
    · have := (M.t.row.lt _ hk).2; omega
    · exact h3 k hk e
  · rcases List.mem_cons.1 hk with e | e
    · omega
    · exact Nat.lt_of_lt_of_le (h.low k e) hb.size
/-- what an operation on a model leaves -/
def Did (B : Nat) (F : List Nat) (w : World) (p tp gp fb : Nat) (S' : S10) (w' : World) : Prop := MM B F w' p tp gp fb S' ∧ Below B w w' ∧ Stay F w w'
theorem MM.did {B : Nat} {F : List Nat} {w w' : World} {p tp gp fb : Nat} {v v' : Value} {S S' : S10} (M : MS w p tp gp fb v S.mem S.root S.l) (h1 : ∀ k, MSet p tp fb v k → B ≤ k) (h2 : ∀ k, v.ownBlock = some k → k ∉ F) (hB : B ≤ w.heap.size) (hs : S'.l.length ≤ 512)
    (low : ∀ k, k ∈ F → k < w.heap.size) (M' : MS w' p tp gp fb v' S'.mem S'.root S'.l) (ho : OwnN w v v') (hK : Kept w.heap.size (MSet p tp fb v) w w') : Did B F w p tp gp fb S' w' := by
  refine ⟨⟨⟨v', M', ?_, ?_⟩, hs, fun k hk => Nat.lt_of_lt_of_le (low k hk) hK.size⟩, (hK.mono hB (fun _ _ h => h)).below (fun k hk h => by have := h1 k h; omega), hK.size, fun b T xs hb hT => ?_⟩
  · rintro k (h | h | h | h)
    · exact h1 k (.inl h)
    · exact h1 k (.inr (.inl h))
    · exact h1 k (.inr (.inr (.inl h)))
    · rcases ho with e | e
      · exact h1 k (.inr (.inr (.inr (e ▸ h))))
      · exact Nat.le_trans hB (e k h)
  · intro k hk hF
    rcases ho with e | e
    · exact h2 k (e ▸ hk) hF
    · have := low k hF; have := e k hk; omega
  · rcases hT with hT | ⟨hF, rfl⟩
    · exact M.keptB hK hb hT
    · refine hb.kept hK hb.lt (fun h => ?_)
      rcases h with h | h | h | h
      · subst h; exact absurd (hb.inj M.hdr).2 (by decide)
      · subst h; exact absurd (hb.inj M.g.row).2 (by decide)
      · subst h; exact absurd (hb.inj M.t.hdr).2 (by decide)
      · exact h2 b h hF
theorem EC.low {w w' : World} {B : Nat} (hE : EC w) (h : Below B w w') (hB : 1 ≤ B) : EC w' := (h.cell (p := ⟨0, 0, none⟩) (by show 0 < B; omega)).trans hE
theorem tdrop_len (l : List Hit) (a p : Int) : (tdrop l a p).length ≤ l.length := by unfold tdrop; exact List.length_eraseP_le
theorem tput_len (l : List Hit) (h : Hit) (hl : l.length ≤ 512) : (tput 512 l h).length ≤ 512 := by
  have := tdrop_len l h.asid h.page
  unfold tput
  rw [List.length_append]
  split
  · rename_i e; rw [List.length_drop, e]; simp
  · rename_i e; simp only [List.length_singleton]; omega
theorem transR_len (mem : List Nat) (root : Int) (l : List Hit) (kind : Int) (user : Bool) (page : Int) (hl : l.length ≤ 512) : (transR mem root l kind user page).l.length ≤ 512 := by
  have hd := tdrop_len l 0 page
  have hm : ∀ o, (missR mem root l kind user page o).l.length ≤ 512 := fun o => by
    unfold missR
    split
    · exact tput_len _ _ (by omega)
    · show (tdrop l 0 page).length ≤ 512; omega
  unfold transR
  split
  · split
    · exact hl
    · exact hm _
  · exact hm _
theorem accR_len (mem : List Nat) (root : Int) (l : List Hit) (kind : Int) (user : Bool) (a x : Nat) (hl : l.length ≤ 512) : (accR mem root l kind user a x).2.2.length ≤ 512 := by
  have := transR_len mem root l kind user (pageOf a) hl
  unfold accR
  dsimp only
  repeat' split
  all_goals assumption
theorem findR_len (mem : List Nat) (root : Int) (l : List Hit) (page : Int) (hl : l.length ≤ 512) : (findR mem root l page).2.length ≤ 512 := by
  unfold findR
  repeat' split
  all_goals first | exact hl | exact tput_len _ _ hl

/-- an operation -/
structure Op10 where
  what : Int
  kind : Int
  user : Bool
  a : Nat
  v : Nat
  g : Int
  i : Int
  page : Int
def Op10.cells (o : Op10) : List Value := [.int .i64 o.what, .int .i64 o.kind, .bool o.user, .int .u64 (o.a : Int), .int .u64 (o.v : Int), .int .i64 o.g, .int .i64 o.i, .int .i64 o.page]
def Op10.ok (o : Op10) : Prop := o.a < 2 ^ 64 ∧ o.v < 2 ^ 64
def ot0 : Ot := ⟨0, 0, 0, 0⟩
def Ot.val (o : Ot) : Value := .agg #[.int .i64 o.how, .int .u64 (o.v : Int), .int .i64 o.code, .int .u64 (o.addr : Int)]
def accS (S : S10) (kind : Int) (user : Bool) (a x : Nat) : Ot × S10 := ((accR S.mem S.root S.l kind user a x).1, ⟨(accR S.mem S.root S.l kind user a x).2.1, S.root, (accR S.mem S.root S.l kind user a x).2.2⟩)
def editS (S : S10) (g i : Int) (x : Nat) : Ot × S10 := (⟨if (place h16 g i).isSome then 0 else 3, 0, 0, 0⟩, ⟨wr h16 S.mem g i x, S.root, S.l⟩)
def dropS (S : S10) (page : Int) : S10 := ⟨S.mem, S.root, tdrop S.l 0 page⟩
def rootS (S : S10) (g : Int) : S10 := ⟨S.mem, g, []⟩
def findS (S : S10) (page : Int) : S10 := ⟨S.mem, S.root, (findR S.mem S.root S.l page).2⟩
/-- what an operation comes to -/
def doR (S : S10) (o : Op10) : Ot × S10 :=
  if o.what = 4 then editS S o.g o.i o.v
  else if o.what = 5 then (ot0, dropS S o.page)
  else if o.what = 6 then (ot0, rootS S o.g)
  else if o.what = 7 then (ot0, findS S o.page)
  else accS S o.kind o.user o.a o.v

section
variable {B : Nat} {F : List Nat} {w : World} {p tp gp fb : Nat} {S : S10}
theorem access_mm (M : MM B F w p tp gp fb S) (hE : EC w) (h0 : 1 ≤ B) (hB : B ≤ w.heap.size) (kind : Int) (user : Bool) (a x : Nat) (ha : a < 2 ^ 64) (hx : x < 2 ^ 64) :
    Calls Tryz.prog 22 #[.pointer (some ⟨p, 0, none⟩), .int .i64 kind, .bool user, .int .u64 (a : Int), .int .u64 (x : Int)] w fun e w' => e = .returned (accS S kind user a x).1.val ∧ Did B F w p tp gp fb (accS S kind user a x).2 w' := by
  obtain ⟨v, M', h1, h2⟩ := M.ex
  refine (access_any w p tp gp fb v _ _ _ M' (by have := M.small; omega) hE (fun k hk => by have := h1 k hk; omega) kind user a x ha hx).mono ?_
  rintro e w' ⟨rfl, v', M2, ho, hK⟩
  exact ⟨rfl, MM.did M' h1 h2 hB (accR_len _ _ _ _ _ _ _ M.small) M.low M2 ho hK⟩
theorem edit_mm (M : MM B F w p tp gp fb S) (hB : B ≤ w.heap.size) (g i : Int) (x : Nat) (hx : x < 2 ^ 64) :
    Calls Tryz.prog 27 #[.pointer (some ⟨p, 0, none⟩), .int .i64 g, .int .i64 i, .int .u64 (x : Int)] w fun e w' => e = .returned (editS S g i x).1.val ∧ Did B F w p tp gp fb (editS S g i x).2 w' := by
  obtain ⟨v, M', h1, h2⟩ := M.ex
  refine (edit_any w p tp gp fb v _ _ _ M' g i x hx).mono ?_
  rintro e w' ⟨rfl, M2, hK⟩
  exact ⟨rfl, MM.did M' h1 h2 hB M.small M.low M2 (OwnN.refl _ _) hK⟩
theorem forget_mm (M : MM B F w p tp gp fb S) (hB : B ≤ w.heap.size) (page : Int) :
    Calls Tryz.prog 19 #[.pointer (some ⟨p, 0, none⟩), .int .i64 page] w fun e w' => e = .returned (.bool (tget S.l 0 page).isSome) ∧ Did B F w p tp gp fb (dropS S page) w' := by
  obtain ⟨v, M', h1, h2⟩ := M.ex
  refine (forget_any w p tp gp fb v _ _ _ M' (by have := M.small; omega) page).mono ?_
  rintro e w' ⟨rfl, v', M2, ho, hK⟩
  exact ⟨rfl, MM.did M' h1 h2 hB (Nat.le_trans (tdrop_len _ _ _) M.small) M.low M2 (.inl ho) (hK.mono (Nat.le_refl _) (TSet.sub _))⟩
theorem root_mm (M : MM B F w p tp gp fb S) (hB : B ≤ w.heap.size) (g : Int) :
    Calls Tryz.prog 30 #[.pointer (some ⟨p, 0, none⟩), .int .i64 g] w fun e w' => (∃ r, e = .returned r) ∧ Did B F w p tp gp fb (rootS S g) w' := by
  obtain ⟨v, M', h1, h2⟩ := M.ex
  refine (mroot_any w p tp gp fb v _ _ _ M' g).mono ?_
  rintro e w' ⟨hr, M2, hK⟩
  exact ⟨hr, MM.did M' h1 h2 hB (Nat.zero_le _) M.low M2 (.inr fun k hk => by simp [Value.ownBlock] at hk) hK⟩
theorem find_mm (M : MM B F w p tp gp fb S) (hE : EC w) (hB : B ≤ w.heap.size) (page : Int) :
    Calls Tryz.prog 32 #[.pointer (some ⟨p, 0, none⟩), .int .i64 page] w fun e w' => e = .returned (.bool (findR S.mem S.root S.l page).1) ∧ Did B F w p tp gp fb (findS S page) w' := by
  obtain ⟨v, M', h1, h2⟩ := M.ex
  refine (mfind_any w p tp gp fb v _ _ _ M' (by have := M.small; omega) hE page).mono ?_
  rintro e w' ⟨rfl, v', M2, ho, hK⟩
  exact ⟨rfl, MM.did M' h1 h2 hB (findR_len _ _ _ _ M.small) M.low M2 ho hK⟩
theorem known_mm (M : MM B F w p tp gp fb S) (page : Int) (o : Option Hit) (ho : tget S.l 0 page = o) :
    Calls Tryz.prog 23 #[.pointer (some ⟨p, 0, none⟩), .int .i64 page] w
      fun e w' => e = .returned (.tuple #[.agg #[.int .i64 (o.getD hit0).asid, .int .i64 (o.getD hit0).page, .int .i64 (o.getD hit0).frame, .bool (o.getD hit0).r.w, .bool (o.getD hit0).r.u, .bool (o.getD hit0).r.x, .bool (o.getD hit0).dirty], .bool o.isSome]) ∧ Below w.heap.size w w' := by
  obtain ⟨v, M', _⟩ := M.ex
  exact known_any w p tp gp fb v _ _ _ M' (by have := M.small; omega) page o ho
theorem mall_mm (M : MM B F w p tp gp fb S) :
    Calls Tryz.prog 37 #[.pointer (some ⟨p, 0, none⟩)] w fun e w' => (∃ v', e = .returned v' ∧ HRow w' v' S.l) ∧ Below w.heap.size w w' := by
  obtain ⟨v, M', _⟩ := M.ex
  exact mall_any w p tp gp fb v _ _ _ M' (by have := M.small; omega)
end
theorem new_mm (w : World) (gp fb : Nat) (mem : List Nat) (root : Int) (G : GM w gp fb h16 16 mem) (hl : mem.length = 128) (B : Nat) (hB : B ≤ w.heap.size) (hfb : B ≤ fb) :
    Calls Tryz.prog 16 #[.pointer (some ⟨gp, 0, none⟩), .int .i64 root] w
      fun e w' => (∃ p tp, e = .returned (.pointer (some ⟨p, 0, none⟩)) ∧ MM B [] w' p tp gp fb ⟨mem, root, []⟩) ∧ Below w.heap.size w w' := by
  refine (modelNew_any w gp fb mem root G hl).mono ?_
  rintro e w' ⟨⟨p, tp, rfl, M, h1, h2⟩, hb⟩
  refine ⟨⟨p, tp, rfl, ⟨_, M, ?_, fun k hk => by simp [Value.ownBlock] at hk⟩, Nat.zero_le _, fun k hk => by simp at hk⟩, hb⟩
  rintro k (h | h | h | h)
  · omega
  · omega
  · omega
  · simp [Value.ownBlock] at h
end Go.Proofs.YtgaififhhffpfaaGreatDoor
