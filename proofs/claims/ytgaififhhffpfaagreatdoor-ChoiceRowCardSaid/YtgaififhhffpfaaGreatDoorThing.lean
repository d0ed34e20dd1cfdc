/- Things that lie apart from one another in memory: what a call on one of them leaves of the others. A guest's memory, a model and their words as things that lie apart. The laws' Made, as a thing apart. All words of a memory, as a thing apart. -/
import Derived.Test.YtgaififhhffpfaaGreatDoorBlk
import Derived.Test.YtgaififhhffpfaaGreatDoorOps
import Derived.Deep.QuietTactic
import Derived.Maps.AppendAt
namespace Go.Proofs.YtgaififhhffpfaaGreatDoor
open Go.RowKit

/-- a thing: the blocks that it leans on, and what is so of it -/
structure Thing where
  own : Nat → Prop
  so : World → Prop
  lt : ∀ w, so w → ∀ b, own b → b < w.heap.size
  keep : ∀ w w', so w → w.heap.size ≤ w'.heap.size → (∀ b, own b → w'.heap[b]? = w.heap[b]?) → so w'
/-- things, all made since w0, apart from one another -/
structure Hold (w0 w : World) (ts : List Thing) : Prop where
  b : Below w0.heap.size w0 w
  so : ∀ t, t ∈ ts → t.so w
  up : ∀ t, t ∈ ts → ∀ b, t.own b → w0.heap.size ≤ b
  apart : ts.Pairwise fun s t => ∀ b, s.own b → t.own b → False
theorem Hold.size {w0 w : World} {ts : List Thing} (h : Hold w0 w ts) : w0.heap.size ≤ w.heap.size := h.b.size
theorem Hold.nil (w0 : World) : Hold w0 w0 [] := ⟨Below.refl _ _, fun _ h => (List.not_mem_nil h).elim, fun _ h => (List.not_mem_nil h).elim, List.Pairwise.nil⟩
theorem Hold.past {w0 w w' : World} {ts : List Thing} (h : Hold w0 w ts) (hb : Below w.heap.size w w') : Hold w0 w' ts :=
  ⟨h.b.trans (hb.mono h.size), fun t ht => t.keep w w' (h.so t ht) hb.size (fun b hb' => hb.block b (t.lt w (h.so t ht) b hb')), h.up, h.apart⟩
theorem Hold.drew {w0 w : World} {ts : List Thing} (h : Hold w0 w ts) : Hold w0 w.drew ts := h.past (Below.refl _ w).drew
theorem Hold.add {w0 w w' : World} {ts : List Thing} (h : Hold w0 w ts) (hb : Below w.heap.size w w') (t : Thing) (hs : t.so w') (hn : ∀ b, t.own b → w.heap.size ≤ b) : Hold w0 w' (t :: ts) := by
  have h' := h.past hb
  refine ⟨h'.b, fun s hm => ?_, fun s hm b hb' => ?_, List.pairwise_cons.2 ⟨fun s hm b h1 h2 => ?_, h.apart⟩⟩
  · rcases List.mem_cons.1 hm with e | e
    · subst e; exact hs
    · exact h'.so s e
  · rcases List.mem_cons.1 hm with e | e
    · subst e; exact Nat.le_trans h.size (hn b hb')
    · exact h.up s e b hb'
  · have := hn b h1
    have := s.lt w (h.so s hm) b h2
    omega
theorem getElem?_mem' {α : Type} {l : List α} {i : Nat} {a : α} (h : l[i]? = some a) : a ∈ l := List.mem_of_getElem? h
theorem Hold.at {w0 w : World} {ts : List Thing} (h : Hold w0 w ts) (i : Nat) {t : Thing} (hi : ts[i]? = some t) : t.so w := h.so t (List.mem_of_getElem? hi)
theorem Hold.lo {w0 w : World} {ts : List Thing} (h : Hold w0 w ts) (i : Nat) {t : Thing} (hi : ts[i]? = some t) : ∀ b, t.own b → w0.heap.size ≤ b := h.up t (List.mem_of_getElem? hi)
theorem apart_ne {ts : List Thing} (h : ts.Pairwise fun s t => ∀ b, s.own b → t.own b → False) {i j : Nat} {s t : Thing} (hi : ts[i]? = some s) (hj : ts[j]? = some t) (hij : i ≠ j) : ∀ b, s.own b → t.own b → False := by
  rw [List.pairwise_iff_getElem] at h
  obtain ⟨li, ei⟩ := List.getElem?_eq_some_iff.1 hi
  obtain ⟨lj, ej⟩ := List.getElem?_eq_some_iff.1 hj
  intro b hs ht
  rcases Nat.lt_or_gt_of_ne hij with hlt | hlt
  · exact h i j li lj hlt b (by rw [ei]; exact hs) (by rw [ej]; exact ht)
  · exact h j i lj li hlt b (by rw [ej]; exact ht) (by rw [ei]; exact hs)
theorem Hold.apart_of {w0 w : World} {ts : List Thing} (h : Hold w0 w ts) {i j : Nat} {s t : Thing} (hi : ts[i]? = some s) (hj : ts[j]? = some t) (hij : i ≠ j) : ∀ b, s.own b → t.own b → False := apart_ne h.apart hi hj hij
theorem set_mem {ts : List Thing} {i : Nat} {t' s : Thing} (hm : s ∈ ts.set i t') : s = t' ∨ ∃ j, j ≠ i ∧ ts[j]? = some s := by
  obtain ⟨j, hj, e⟩ := List.getElem_of_mem hm
  by_cases h : i = j
  · subst h; left; rw [← e, List.getElem_set_self]
  · right
    refine ⟨j, fun e => h e.symm, ?_⟩
    rw [List.getElem_set_ne h] at e
    have hj' : j < ts.length := by simpa using hj
    rw [List.getElem?_eq_getElem hj', e]
/-- what a call leaves that turns blocks of one thing alone -/
theorem Hold.step {w0 w w' : World} {ts : List Thing} (h : Hold w0 w ts) (i : Nat) {t : Thing} (t' : Thing) (hi : ts[i]? = some t) (hs : t'.so w') (K : Kept w.heap.size t.own w w') (ho : ∀ b, t'.own b → t.own b ∨ w.heap.size ≤ b) : Hold w0 w' (ts.set i t') := by
  have hbt : Below w0.heap.size w0 w' := h.b.trans ((K.mono h.size (fun _ _ x => x)).below (fun b hb hS => by have := h.lo i hi b hS; omega))
  refine ⟨hbt, fun s hm => ?_, fun s hm b hb => ?_, ?_⟩
  · rcases set_mem hm with e | ⟨j, hj, e⟩
    · subst e; exact hs
    · exact s.keep w w' (h.at j e) K.size (fun b hb => K.block b (s.lt w (h.at j e) b hb) (fun hS => h.apart_of e hi hj b hb hS))
  · rcases set_mem hm with e | ⟨j, hj, e⟩
    · subst e
      rcases ho b hb with x | x
      · exact h.lo i hi b x
      · exact Nat.le_trans h.size x
    · exact h.lo j e b hb
  · rw [List.pairwise_iff_getElem]
    intro a c ha hc hac b h1 h2
    have key : ∀ j (hj : j < ts.length), j ≠ i → ∀ b, t'.own b → ts[j].own b → False := fun j hj hji b hb1 hb2 => by
      have e : ts[j]? = some ts[j] := List.getElem?_eq_getElem hj
      rcases ho b hb1 with x | x
      · exact h.apart_of e hi hji b hb2 x
      · have := ts[j].lt w (h.at j e) b hb2; omega
    have ha' : a < ts.length := by simpa using ha
    have hc' : c < ts.length := by simpa using hc
    by_cases hai : i = a
    · subst hai
      rw [List.getElem_set_self] at h1
      rw [List.getElem_set_ne (by omega)] at h2
      exact key c hc' (by omega) b h1 h2
    · rw [List.getElem_set_ne hai] at h1
      by_cases hci : i = c
      · subst hci
        rw [List.getElem_set_self] at h2
        exact key a ha' (by omega) b h2 h1
      · rw [List.getElem_set_ne hci] at h2
        exact h.apart_of (List.getElem?_eq_getElem ha') (List.getElem?_eq_getElem hc') (by omega) b h1 h2
theorem Hold.weak {w0 w : World} {ts : List Thing} (h : Hold w0 w ts) (i : Nat) {t : Thing} (t' : Thing) (hi : ts[i]? = some t) (hs : t'.so w) (ho : ∀ b, t'.own b → t.own b) : Hold w0 w (ts.set i t') :=
  h.step i t' hi hs (Kept.refl _ _ _) (fun b hb => .inl (ho b hb))
theorem Hold.sub {w0 w : World} {ts us : List Thing} (h : Hold w0 w ts) (hs : us.Sublist ts) : Hold w0 w us :=
  ⟨h.b, fun t ht => h.so t (hs.subset ht), fun t ht => h.up t (hs.subset ht), h.apart.sublist hs⟩
theorem Hold.perm {w0 w : World} {ts us : List Thing} (h : Hold w0 w ts) (hp : us.Perm ts) : Hold w0 w us :=
  ⟨h.b, fun t ht => h.so t (hp.subset ht), fun t ht => h.up t (hp.subset ht), hp.symm.pairwise h.apart (fun hxy b h1 h2 => hxy b h2 h1)⟩
/-- two things as one -/
def Thing.and (s t : Thing) : Thing where
  own b := s.own b ∨ t.own b
  so w := s.so w ∧ t.so w ∧ ∀ b, s.own b → t.own b → False
  lt w h b hb := hb.elim (s.lt w h.1 b) (t.lt w h.2.1 b)
  keep w w' h hs hb := ⟨s.keep w w' h.1 hs (fun b x => hb b (.inl x)), t.keep w w' h.2.1 hs (fun b x => hb b (.inr x)), h.2.2⟩

/-- a block with its cells -/
def box (b : Nat) (T : TypeId) (xs : List Value) : Thing where
  own := fun k => k = b
  so w := Blk w b T xs
  lt _ h _ hk := hk ▸ h.lt
  keep _ _ h _ hk := h.of_heap (hk b rfl)
theorem Hold.box {w0 w : World} {ts : List Thing} (h : Hold w0 w ts) (i : Nat) {b : Nat} {T : TypeId} {xs : List Value} (hi : ts[i]? = some (box b T xs)) : Blk w b T xs := h.at i hi
theorem Hold.new {w0 w : World} {ts : List Thing} (h : Hold w0 w ts) (T : TypeId) (xs : List Value) : Hold w0 (w.alloc (.cells xs.toArray T (0, 0))) (Go.Proofs.YtgaififhhffpfaaGreatDoor.box w.heap.size T xs :: ts) :=
  h.add ((Below.refl _ w).alloc (Nat.le_refl _) _) _ (Blk.new w T xs) (fun _ hb => Nat.le_of_eq hb.symm)
theorem Hold.put {w0 w : World} {ts : List Thing} (h : Hold w0 w ts) (i : Nat) {b : Nat} {T : TypeId} {xs : List Value} (hi : ts[i]? = some (Go.Proofs.YtgaififhhffpfaaGreatDoor.box b T xs)) (k : Nat) (v : Value) : Hold w0 (w.setCell ⟨b, k, none⟩ v) (ts.set i (Go.Proofs.YtgaififhhffpfaaGreatDoor.box b T (xs.set k v))) :=
  h.step i _ hi ((h.box i hi).set k v) (Kept.setCell (S := (Go.Proofs.YtgaififhhffpfaaGreatDoor.box b T xs).own) (Kept.refl _ _ w) (p := ⟨b, k, none⟩) (.inl rfl) v) (fun _ hb => .inl hb)
/-- a fact that leans on no block -/
def pure' (P : Prop) : Thing where
  own _ := False
  so _ := P
  lt _ _ _ h := h.elim
  keep _ _ h _ _ := h
end Go.Proofs.YtgaififhhffpfaaGreatDoor

namespace Go.Proofs.YtgaififhhffpfaaGreatDoor
open Go.RowKit Go.Shelf

/-- where a guest's memory lies -/
structure GA where
  p : Nat
  fb : Nat
  gp : Nat
  hb : Nat
  mb : Nat
  fp : Nat
  cap : Nat
def GA.own (A : GA) (k : Nat) : Prop := k = A.p ∨ k = A.fb ∨ k = A.gp ∨ k = A.hb ∨ k = A.fp
structure GX (w : World) (A : GA) (mem : List Nat) : Prop where
  h : Host w A.fp A.fb 16 mem
  g : Guest w A.p A.gp A.hb A.mb A.fp h16 A.cap 16
theorem GX.gm {w : World} {A : GA} {mem : List Nat} (h : GX w A mem) : GM w A.p A.fb h16 16 mem := ⟨_, _, _, _, _, h.h, h.g⟩
theorem GX.len {w : World} {A : GA} {mem : List Nat} (h : GX w A mem) : mem.length = 128 := h.h.len
theorem GX.lt {w : World} {A : GA} {mem : List Nat} (h : GX w A mem) : ∀ k, A.own k → k < w.heap.size := by
  obtain ⟨sp, hr⟩ := h.g.row
  rintro k (e | e | e | e | e) <;> subst e
  · exact h.g.hdr.lt
  · exact h.h.row.lt
  · exact h.g.gm.lt
  · exact hr.lt
  · exact h.h.hdr.lt
theorem GX.keep {w w' : World} {A : GA} {mem : List Nat} (h : GX w A mem) (hk : ∀ k, A.own k → w'.heap[k]? = w.heap[k]?) : GX w' A mem := by
  obtain ⟨sp, hr⟩ := h.g.row
  exact ⟨⟨h.h.hdr.of_heap (hk _ (.inr (.inr (.inr (.inr rfl))))), h.h.row.of_heap (hk _ (.inr (.inl rfl))), h.h.len, h.h.small, h.h.bd⟩,
    ⟨h.g.hdr.of_heap (hk _ (.inl rfl)), h.g.gm.of_heap (hk _ (.inr (.inr (.inl rfl)))), ⟨sp, hr.of_heap (hk _ (.inr (.inr (.inr (.inl rfl)))))⟩, h.g.len, h.g.bd⟩⟩
theorem GX.past {w w' : World} {A : GA} {mem : List Nat} (h : GX w A mem) (hb : Below w.heap.size w w') : GX w' A mem := h.keep fun k hk => hb.block k (h.lt k hk)
/-- its words turned -/
theorem GX.turn {w w' : World} {A : GA} {mem mem' : List Nat} {S : Nat → Prop} (h : GX w A mem) (K : Kept w.heap.size S w w')
    (hS : ∀ b T xs, S b → Blk w b T xs → T = 106 ∨ T = 217 ∨ T = 164 ∨ T = 49) (M : GM w' A.p A.fb h16 16 mem') : GX w' A mem' := by
  have key : ∀ b T xs, Blk w b T xs → (T ≠ 106 ∧ T ≠ 217 ∧ T ≠ 164 ∧ T ≠ 49) → Blk w' b T xs := fun b T xs hb hT => hb.kept K hb.lt (fun s => by
    rcases hS b T xs s hb with e | e | e | e
    · exact hT.1 e
    · exact hT.2.1 e
    · exact hT.2.2.1 e
    · exact hT.2.2.2 e)
  obtain ⟨sp, hr⟩ := h.g.row
  obtain ⟨gp, hb, mb, fp, cap, H, G⟩ := M
  exact ⟨⟨key _ _ _ h.h.hdr (by decide), H.row, H.len, h.h.small, H.bd⟩, ⟨key _ _ _ h.g.hdr (by decide), key _ _ _ h.g.gm (by decide), ⟨sp, key _ _ _ hr (by decide)⟩, h.g.len, h.g.bd⟩⟩
def gmem (A : GA) (mem : List Nat) : Thing where
  own := A.own
  so w := GX w A mem
  lt _ h := h.lt
  keep _ _ h _ hk := h.keep hk

/-- where a model lies -/
structure MA where
  p : Nat
  tp : Nat
  g : GA
def MA.own (A : MA) (v : Value) (k : Nat) : Prop := k = A.p ∨ k = A.tp ∨ v.ownBlock = some k ∨ A.g.own k
structure MX (w : World) (A : MA) (v : Value) (S : S10) : Prop where
  hdr : Blk w A.p 106 [.pointer (some ⟨A.tp, 0, none⟩), .pointer (some ⟨A.g.p, 0, none⟩), .int .i64 S.root]
  t : TS w A.tp 512 v S.l
  g : GX w A.g S.mem
  small : S.l.length ≤ 512
theorem HRow.keep {w w' : World} {v : Value} {l : List Hit} (h : HRow w v l) (hk : ∀ b, v.ownBlock = some b → w'.heap[b]? = w.heap[b]?) : HRow w' v l := by
  rcases h.view with ⟨rfl, rfl⟩ | ⟨g, cap, rest, rfl, hb, h1, h2, h3⟩
  · exact HRow.nil _
  · exact HRow.mk' (hb.of_heap (hk g rfl)) h1 h2 h3
theorem HRow.lt' {w : World} {v : Value} {l : List Hit} (h : HRow w v l) : ∀ b, v.ownBlock = some b → b < w.heap.size := by
  rcases h.view with ⟨rfl, rfl⟩ | ⟨g, cap, rest, rfl, hb, h1, h2, h3⟩
  · intro b hb; simp [Value.ownBlock] at hb
  · intro b hb'; simp [Value.ownBlock] at hb'; subst hb'; exact hb.lt
theorem MX.lt {w : World} {A : MA} {v : Value} {S : S10} (h : MX w A v S) : ∀ k, A.own v k → k < w.heap.size := by
  rintro k (e | e | e | e)
  · subst e; exact h.hdr.lt
  · subst e; exact h.t.hdr.lt
  · exact h.t.row.lt' k e
  · exact h.g.lt k e
theorem MX.keep {w w' : World} {A : MA} {v : Value} {S : S10} (h : MX w A v S) (hk : ∀ k, A.own v k → w'.heap[k]? = w.heap[k]?) : MX w' A v S :=
  ⟨h.hdr.of_heap (hk _ (.inl rfl)), ⟨h.t.hdr.of_heap (hk _ (.inr (.inl rfl))), h.t.row.keep fun b hb => hk b (.inr (.inr (.inl hb)))⟩, h.g.keep fun k e => hk k (.inr (.inr (.inr e))), h.small⟩
theorem MX.ms {w : World} {A : MA} {v : Value} {S : S10} (h : MX w A v S) : MS w A.p A.tp A.g.p A.g.fb v S.mem S.root S.l := ⟨h.hdr, h.t, h.g.gm, h.g.len⟩
def mdl (A : MA) (v : Value) (S : S10) : Thing where
  own := A.own v
  so w := MX w A v S
  lt _ h := h.lt
  keep _ _ h _ hk := h.keep hk
theorem mset_own {A : MA} {v : Value} {k : Nat} (h : MSet A.p A.tp A.g.fb v k) : A.own v k := by
  rcases h with h | h | h | h
  · exact .inl h
  · exact .inr (.inr (.inr (.inr (.inl h))))
  · exact .inr (.inl h)
  · exact .inr (.inr (.inl h))
/-- what an operation on a model leaves -/
theorem MX.turn {w w' : World} {A : MA} {v v' : Value} {S S' : S10} (h : MX w A v S) (M' : MS w' A.p A.tp A.g.p A.g.fb v' S'.mem S'.root S'.l) (hs : S'.l.length ≤ 512) (K : Kept w.heap.size (MSet A.p A.tp A.g.fb v) w w') : MX w' A v' S' :=
  ⟨M'.hdr, M'.t, h.g.turn K (fun b T xs s hb => h.ms.types b T xs s hb) M'.g, hs⟩
theorem Hold.mdl {w0 w w' : World} {ts : List Thing} (H : Hold w0 w ts) (i : Nat) {A : MA} {v v' : Value} {S S' : S10} (hi : ts[i]? = some (Go.Proofs.YtgaififhhffpfaaGreatDoor.mdl A v S)) (M' : MS w' A.p A.tp A.g.p A.g.fb v' S'.mem S'.root S'.l) (hs : S'.l.length ≤ 512) (ho : OwnN w v v') (K : Kept w.heap.size (MSet A.p A.tp A.g.fb v) w w') :
    Hold w0 w' (ts.set i (Go.Proofs.YtgaififhhffpfaaGreatDoor.mdl A v' S')) :=
  H.step i _ hi (MX.turn (H.at i hi) M' hs K) (K.mono (Nat.le_refl _) fun _ _ h => mset_own h) (by
    rintro b (e | e | e | e)
    · exact .inl (.inl e)
    · exact .inl (.inr (.inl e))
    · rcases ho with x | x
      · exact .inl (.inr (.inr (.inl (x ▸ e))))
      · exact .inr (x b e)
    · exact .inl (.inr (.inr (.inr e))))
/-- words that a slice shows -/
def wds (v : Value) (l : List Nat) : Thing where
  own k := v.ownBlock = some k
  so w := Wd w v l
  lt w h k hk := by obtain ⟨b, c, rest, rfl, hb⟩ := h; simp [Value.ownBlock] at hk; subst hk; exact hb.lt
  keep w w' h _ hk := by obtain ⟨b, c, rest, rfl, hb⟩ := h; exact ⟨b, c, rest, rfl, hb.of_heap (hk b rfl)⟩

section
variable {w0 w : World} {ts : List Thing} (H : Hold w0 w ts) (i : Nat)
include H
theorem Hold.ec (hE : EC w0) (h0 : 1 ≤ w0.heap.size) : EC w := hE.low H.b h0
variable {A : MA} {v : Value} {S : S10} (hi : ts[i]? = some (Go.Proofs.YtgaififhhffpfaaGreatDoor.mdl A v S))
include hi
theorem access_h (hE : EC w0) (h0 : 1 ≤ w0.heap.size) (kind : Int) (user : Bool) (a x : Nat) (ha : a < 2 ^ 64) (hx : x < 2 ^ 64) :
    Calls Tryz.prog 22 #[.pointer (some ⟨A.p, 0, none⟩), .int .i64 kind, .bool user, .int .u64 (a : Int), .int .u64 (x : Int)] w fun e w' => e = .returned (accS S kind user a x).1.val ∧ ∃ v', Hold w0 w' (ts.set i (Go.Proofs.YtgaififhhffpfaaGreatDoor.mdl A v' (accS S kind user a x).2)) := by
  have M : MX w A v S := H.at i hi
  refine (access_any w A.p A.tp A.g.p A.g.fb v _ _ _ M.ms (by have := M.small; omega) (H.ec hE h0) (fun k hk => by have := H.lo i hi k (mset_own hk); omega) kind user a x ha hx).mono ?_
  rintro e w' ⟨rfl, v', M2, ho, hK⟩
  exact ⟨rfl, v', H.mdl i hi (S' := (accS S kind user a x).2) M2 (accR_len _ _ _ _ _ _ _ M.small) ho hK⟩
theorem edit_h (g j : Int) (x : Nat) (hx : x < 2 ^ 64) :
    Calls Tryz.prog 27 #[.pointer (some ⟨A.p, 0, none⟩), .int .i64 g, .int .i64 j, .int .u64 (x : Int)] w fun e w' => e = .returned (editS S g j x).1.val ∧ ∃ v', Hold w0 w' (ts.set i (Go.Proofs.YtgaififhhffpfaaGreatDoor.mdl A v' (editS S g j x).2)) := by
  have M : MX w A v S := H.at i hi
  refine (edit_any w A.p A.tp A.g.p A.g.fb v _ _ _ M.ms g j x hx).mono ?_
  rintro e w' ⟨rfl, M2, hK⟩
  exact ⟨rfl, v, H.mdl i hi (S' := (editS S g j x).2) M2 M.small (OwnN.refl _ _) hK⟩
theorem forget_h (page : Int) :
    Calls Tryz.prog 19 #[.pointer (some ⟨A.p, 0, none⟩), .int .i64 page] w fun e w' => e = .returned (.bool (tget S.l 0 page).isSome) ∧ ∃ v', Hold w0 w' (ts.set i (Go.Proofs.YtgaififhhffpfaaGreatDoor.mdl A v' (dropS S page))) := by
  have M : MX w A v S := H.at i hi
  refine (forget_any w A.p A.tp A.g.p A.g.fb v _ _ _ M.ms (by have := M.small; omega) page).mono ?_
  rintro e w' ⟨rfl, v', M2, ho, hK⟩
  exact ⟨rfl, v', H.mdl i hi (S' := dropS S page) M2 (Nat.le_trans (tdrop_len _ _ _) M.small) (.inl ho) (hK.mono (Nat.le_refl _) (TSet.sub _))⟩
theorem mroot_h (g : Int) :
    Calls Tryz.prog 30 #[.pointer (some ⟨A.p, 0, none⟩), .int .i64 g] w fun e w' => (∃ r, e = .returned r) ∧ ∃ v', Hold w0 w' (ts.set i (Go.Proofs.YtgaififhhffpfaaGreatDoor.mdl A v' (rootS S g))) := by
  have M : MX w A v S := H.at i hi
  refine (mroot_any w A.p A.tp A.g.p A.g.fb v _ _ _ M.ms g).mono ?_
  rintro e w' ⟨hr, M2, hK⟩
  exact ⟨hr, _, H.mdl i hi (S' := rootS S g) M2 (Nat.zero_le _) (.inr fun k hk => by simp [Value.ownBlock] at hk) hK⟩
theorem find_h (hE : EC w0) (h0 : 1 ≤ w0.heap.size) (page : Int) :
    Calls Tryz.prog 32 #[.pointer (some ⟨A.p, 0, none⟩), .int .i64 page] w fun e w' => e = .returned (.bool (findR S.mem S.root S.l page).1) ∧ ∃ v', Hold w0 w' (ts.set i (Go.Proofs.YtgaififhhffpfaaGreatDoor.mdl A v' (findS S page))) := by
  have M : MX w A v S := H.at i hi
  refine (mfind_any w A.p A.tp A.g.p A.g.fb v _ _ _ M.ms (by have := M.small; omega) (H.ec hE h0) page).mono ?_
  rintro e w' ⟨rfl, v', M2, ho, hK⟩
  exact ⟨rfl, v', H.mdl i hi (S' := findS S page) M2 (findR_len _ _ _ _ M.small) ho hK⟩
theorem known_h (page : Int) (o : Option Hit) (ho : tget S.l 0 page = o) :
    Calls Tryz.prog 23 #[.pointer (some ⟨A.p, 0, none⟩), .int .i64 page] w
      fun e w' => e = .returned (.tuple #[.agg #[.int .i64 (o.getD hit0).asid, .int .i64 (o.getD hit0).page, .int .i64 (o.getD hit0).frame, .bool (o.getD hit0).r.w, .bool (o.getD hit0).r.u, .bool (o.getD hit0).r.x, .bool (o.getD hit0).dirty], .bool o.isSome]) ∧ Hold w0 w' ts := by
  have M : MX w A v S := H.at i hi
  exact (known_any w A.p A.tp A.g.p A.g.fb v _ _ _ M.ms (by have := M.small; omega) page o ho).mono fun _ _ h => ⟨h.1, H.past h.2⟩
theorem mall_h :
    Calls Tryz.prog 37 #[.pointer (some ⟨A.p, 0, none⟩)] w fun e w' => (∃ v', e = .returned v' ∧ HRow w' v' S.l) ∧ Below w.heap.size w w' := by
  have M : MX w A v S := H.at i hi
  exact mall_any w A.p A.tp A.g.p A.g.fb v _ _ _ M.ms (by have := M.small; omega)
theorem mwords_h :
    Calls Tryz.prog 40 #[.pointer (some ⟨A.g.p, 0, none⟩)] w fun e w' => (∃ v', e = .returned v' ∧ Wd w' v' S.mem) ∧ Below w.heap.size w w' := by
  have M : MX w A v S := H.at i hi
  exact all_words w A.g.p A.g.fb S.mem M.g.gm M.g.len
end
section
variable {w0 w : World} {ts : List Thing} (H : Hold w0 w ts) (i : Nat) {A : GA} {mem : List Nat} (hi : ts[i]? = some (gmem A mem))
include H hi
theorem gall_h : Calls Tryz.prog 40 #[.pointer (some ⟨A.p, 0, none⟩)] w fun e w' => (∃ v', e = .returned v' ∧ Wd w' v' mem) ∧ Below w.heap.size w w' := by
  have M : GX w A mem := H.at i hi
  exact all_words w A.p A.fb mem M.gm M.len
/-- a new model of a memory -/
theorem new_h (root : Int) : Calls Tryz.prog 16 #[.pointer (some ⟨A.p, 0, none⟩), .int .i64 root] w
    fun e w' => ∃ p tp, e = .returned (.pointer (some ⟨p, 0, none⟩)) ∧ Hold w0 w' (ts.set i (Go.Proofs.YtgaififhhffpfaaGreatDoor.mdl ⟨p, tp, A⟩ (.slice none 0 0) ⟨mem, root, []⟩)) := by
  have M : GX w A mem := H.at i hi
  refine (modelNew_any w A.p A.fb mem root M.gm M.len).mono ?_
  rintro e w' ⟨⟨p, tp, rfl, M', h1, h2⟩, hb⟩
  refine ⟨p, tp, rfl, H.step i _ hi (⟨M'.hdr, M'.t, M.past hb, Nat.zero_le _⟩ : MX w' ⟨p, tp, A⟩ _ _) (Kept.of_below hb) ?_⟩
  rintro b (e | e | e | e)
  · subst e; exact .inr h1
  · subst e; exact .inr h2
  · simp [Value.ownBlock] at e
  · exact .inl e
end
/-- a model is its memory besides -/
theorem Hold.gmem {w0 w : World} {ts : List Thing} (H : Hold w0 w ts) (i : Nat) {A : MA} {v : Value} {S : S10} (hi : ts[i]? = some (Go.Proofs.YtgaififhhffpfaaGreatDoor.mdl A v S)) : Hold w0 w (ts.set i (Go.Proofs.YtgaififhhffpfaaGreatDoor.gmem A.g S.mem)) :=
  H.weak i _ hi (MX.g (H.at i hi)) fun _ h => .inr (.inr (.inr h))
end Go.Proofs.YtgaififhhffpfaaGreatDoor

namespace Go.Proofs.YtgaififhhffpfaaGreatDoor
open Go.RowKit
set_option maxRecDepth 100000 in
set_option maxHeartbeats 2000000 in
theorem made_x (w : World) (a : Option Addr) (c : Nat) (l : List (Int × Int × Nat)) (hp : Ps w a l) (hlen : l.length ≤ 9223372036854775807) :
    Calls Tryz.prog 15 #[.slice a l.length c] w
      fun e w' => (∃ A : GA, e = .returned (.pointer (some ⟨A.p, 0, none⟩)) ∧ GX w' A (puts l) ∧ ∀ k, A.own k → w.heap.size ≤ k) ∧ Below w.heap.size w w' := by
  obtain ⟨len, hl⟩ : ∃ len, l.length = len := ⟨_, rfl⟩
  rw [hl] at hlen ⊢
  obtain ⟨i0, hi, hz0, hz1, hz2⟩ := info_parts info_int
  have HP := Lib.hid hp
  have HL := Lib.hid hl
  have H1 := Lib.hid hi
  have HZ0 := Lib.hid hz0
  have HZ1 := Lib.hid hz1
  have HZ2 := Lib.hid hz2
  clear hp hl hi hz0 hz1 hz2
  go_enter Tryz.func15, Tryz.ntmps15
  go_wp2_with fail
  go_loopw [3, 4] (fun v i wr => ∃ k : Nat, k ≤ 16 ∧ i = .int .i64 k ∧ wr.ownsRow w.heap.size 3 1 v k ((List.range k).map i64) ∧ Below w.heap.size w wr) (fun _ i _ => 16 - (intOf i).toNat)
  case atStart => exact ⟨0, by omega, rfl, World.ownsRow_nil _ _ _ _, Below.refl _ _⟩
  case round =>
    obtain ⟨k, hk, rfl, hown, hB⟩ := hrel
    have hs1 := hB.size
    by_cases h16 : k < 16
    · have HO := Lib.hid hown
      have hnc := cell_one_new wr (.int .i64 (k : Int)) 3
      have HN := Lib.hid hnc
      clear hown hnc
      go_wp2_with (first
        | (at_builtin; refine wpList_append_own _ rfl _ _ 95 rfl w.heap.size 3 i0 _ 1 8 Tryz.underlying95 H1.out HZ0.out HZ1.out HZ2.out rfl (by decide) _ _ _ rfl (HO.out.alloc _) ⟨wr.heap.size, 0, none⟩ 1 1 [.int .i64 (k : Int)] rfl rfl HN.out (fun x hx => by simp at hx; subst hx; rfl) (by unfold maxLen; omega) (by omega) (by simp; omega) ?_; intro v' w3 hown' hgrow3 hnil3; have HO3 := Lib.hid hown'; have HG3 := Lib.hid hgrow3; clear hown' hgrow3 hnil3))
      go_roundw
      case rel =>
        refine ⟨k + 1, by omega, by simp, ?_, (hB.alloc hB.size _).grown HG3.out (by simp; omega) (fun r e => ?_)⟩
        · rw [List.range_succ, List.map_append]; exact HO3.out
        · exact ((HO.out.alloc (.cells #[.int .i64 (k : Int)] 3)).lt r e).1
      case measure => simp [intOf]; omega
    · obtain rfl : k = 16 := by omega
      obtain ⟨g, cp, rest, rfl, hrow⟩ := row16 hown
      have HR := Lib.hid hrow
      clear hown hrow h16
      go_wp2_with (first
        | (go_at_call 55; refine (frameNew_any _).mono ?_; rintro e W1 ⟨⟨fp, fb, rfl, hH, q1, q2⟩, hB1⟩)
        | (go_at_call 56; refine (gmapNew_any _ g cp rest (HR.out.past hB1)).mono ?_; rintro e W2 ⟨⟨gp, hb, mb, cap, sp, rfl, hg1, hg2, q3, q4⟩, hB2⟩)
        | (go_at_call 57; refine (guestNew_any _ _ _).mono ?_; rintro e W3 ⟨rfl, rfl⟩))
      have e1 := hB1.size
      have e2 := hB2.size
      have bN : Below W2.heap.size W2 (W2.alloc (.cells #[.pointer (some ⟨gp, 0, none⟩), .pointer (some ⟨fp, 0, none⟩)] 120)) := (Below.refl _ W2).alloc (Nat.le_refl _) _
      have M0 : GX (W2.alloc (.cells #[.pointer (some ⟨gp, 0, none⟩), .pointer (some ⟨fp, 0, none⟩)] 120)) ⟨W2.heap.size, fb, gp, hb, mb, fp, cap⟩ (puts []) :=
        ⟨(hH.past hB2).past bN, ⟨Blk.new W2 120 [.pointer (some ⟨gp, 0, none⟩), .pointer (some ⟨fp, 0, none⟩)], hg1.alloc _, ⟨sp, hg2.alloc _⟩, by decide, by intro h hh; unfold h16 at hh; simpa using hh⟩⟩
      have BN : Below w.heap.size w (W2.alloc (.cells #[.pointer (some ⟨gp, 0, none⟩), .pointer (some ⟨fp, 0, none⟩)] 120)) := (hB.trans ((hB1.mono hB.size).trans (hB2.mono (by omega)))).alloc (by omega) _
      have qp : w.heap.size ≤ W2.heap.size := by omega
      have qf : w.heap.size ≤ fb := by omega
      have qo : ∀ k, (⟨W2.heap.size, fb, gp, hb, mb, fp, cap⟩ : GA).own k → w.heap.size ≤ k := by
        intro k hk
        unfold GA.own at hk
        dsimp only at hk
        omega
      have HQO := Lib.hid qo
      clear qo
      obtain ⟨WN, hWN⟩ : ∃ WN, W2.alloc (.cells #[.pointer (some ⟨gp, 0, none⟩), .pointer (some ⟨fp, 0, none⟩)] 120) = WN := ⟨_, rfl⟩
      obtain ⟨p, hp⟩ : ∃ p, W2.heap.size = p := ⟨_, rfl⟩
      rw [hWN] at M0 BN ⊢
      rw [hp] at M0 qp HQO ⊢
      clear hWN hp bN hg1 hg2 hH hB hB1 hB2 q1 q2 q3 q4 e1 e2 HR H1 HZ0 HZ1 HZ2 hs1
      go_loopw [8] (fun i wr => ∃ k : Nat, k ≤ len ∧ i = .int .i64 k ∧ GX wr ⟨p, fb, gp, hb, mb, fp, cap⟩ (puts (l.take k)) ∧ Below w.heap.size w wr) (fun i _ => len - (intOf i).toNat)
      case atStart => exact ⟨0, by omega, rfl, by simpa using M0, BN⟩
      case round =>
        obtain ⟨k, hk, rfl, M, hB⟩ := hrel
        clear M0 BN
        by_cases hkl : k < len
        · obtain ⟨b, off, rfl, hb1, hcs⟩ : ∃ b off, a = some ⟨b, off, none⟩ ∧ b < w.heap.size ∧ ∀ j, j < l.length → (l.getD j (0, 0, 0)).2.2 < 2 ^ 64 ∧
              w.cell? ⟨b, off + j * 3, none⟩ = some (.int .i64 (l.getD j (0, 0, 0)).1) ∧ w.cell? ⟨b, off + j * 3 + 1, none⟩ = some (.int .i64 (l.getD j (0, 0, 0)).2.1) ∧ w.cell? ⟨b, off + j * 3 + 2, none⟩ = some (.int .u64 ((l.getD j (0, 0, 0)).2.2 : Int)) := by
            rcases HP.out with h | h
            · rw [h] at HL; have := HL.out; simp at this; omega
            · exact h
          obtain ⟨hv, c0, c1, c2⟩ := hcs k (by rw [HL.out]; exact hkl)
          have hnext := puts_take l k (by rw [HL.out]; exact hkl)
          obtain ⟨⟨x1, x2, x3⟩, hx⟩ : ∃ x, l.getD k (0, 0, 0) = x := ⟨_, rfl⟩
          rw [hx] at hv c0 c1 c2 hnext
          dsimp only [put1] at hv c0 c1 c2 hnext
          have HN := Lib.hid hnext
          obtain ⟨mk, hmk⟩ : ∃ mk, puts (l.take k) = mk := ⟨_, rfl⟩
          rw [hmk] at M HN
          have HM := Lib.hid M
          have C0 := Lib.hid c0
          have C1 := Lib.hid c1
          have C2 := Lib.hid c2
          clear c0 c1 c2
          have c0 := (hB.cell (p := ⟨b, _, none⟩) hb1).trans C0.out
          have c1 := (hB.cell (p := ⟨b, _, none⟩) hb1).trans C1.out
          have c2 := (hB.cell (p := ⟨b, _, none⟩) hb1).trans C2.out
          clear hcs hx hnext M hmk hk
          go_wp2_with fail
          go_region_held3 (fun w' => w'.cell? ⟨b, off + k * 3, none⟩ = some (.int .i64 x1) ∧ w'.cell? ⟨b, off + k * 3 + 1, none⟩ = some (.int .i64 x2) ∧ w'.cell? ⟨b, off + k * 3 + 2, none⟩ = some (.int .u64 (x3 : Int))) (go_keep) (first | (go_at_call 42; refine (gm_set (HM.out.gm.past (below_of_drewN _ 1)) x1 x2 x3 hv).mono ?_; rintro e W3 ⟨rfl, hM3, hK3', hS3⟩; have hX3 := (HM.out.past (below_of_drewN _ 1)).turn hK3' (fun b T xs s hb => by subst s; exact .inr (.inl (hb.inj (HM.out.past (below_of_drewN _ 1)).h.row).2)) hM3; have hK3 := hK3'.undrawn; have hB3 := hB.trans ((hK3.mono (B' := w.heap.size) (S' := fun k => k = fb) hB.size (fun _ _ h => h)).below (fun k' hk' e => by omega)); have f0 := (hB3.cell (p := ⟨b, off + k * 3, none⟩) hb1).trans C0.out; have f1 := (hB3.cell (p := ⟨b, off + k * 3 + 1, none⟩) hb1).trans C1.out; have f2 := (hB3.cell (p := ⟨b, off + k * 3 + 2, none⟩) hb1).trans C2.out))
          all_goals go_wp2
          all_goals go_roundw
          case rel => exact ⟨k + 1, by omega, by simp, by rw [HN.out]; exact hX3, hB3⟩
          case measure => simp [intOf]; omega
        · obtain rfl : k = len := by omega
          go_wp2
          go_ret
          refine ⟨⟨⟨p, fb, gp, hb, mb, fp, cap⟩, rfl, ?_, HQO.out⟩, hB⟩
          rw [← HL.out, List.take_length] at M
          exact M
theorem made_h {w0 w : World} {ts : List Thing} (H : Hold w0 w ts) (a : Option Addr) (c : Nat) (l : List (Int × Int × Nat)) (hp : Ps w0 a l) (hlen : l.length ≤ 9223372036854775807) :
    Calls Tryz.prog 15 #[.slice a l.length c] w fun e w' => ∃ A : GA, e = .returned (.pointer (some ⟨A.p, 0, none⟩)) ∧ Hold w0 w' (gmem A (puts l) :: ts) := by
  refine (made_x w a c l (hp.below H.b) hlen).mono ?_
  rintro e w' ⟨⟨A, rfl, hX, hn⟩, hb⟩
  exact ⟨A, rfl, H.add hb (gmem A (puts l)) hX hn⟩
end Go.Proofs.YtgaififhhffpfaaGreatDoor

namespace Go.Proofs.YtgaififhhffpfaaGreatDoor
open Go.RowKit Go.Shelf
set_option maxRecDepth 100000 in
set_option maxHeartbeats 2000000 in
theorem all_words_x (w : World) (p fb : Nat) (mem : List Nat) (M : GM w p fb h16 16 mem) (hl : mem.length = 128) :
    Calls Tryz.prog 40 #[.pointer (some ⟨p, 0, none⟩)] w
      fun e w' => (∃ v, e = .returned v ∧ Wd w' v mem ∧ ∀ k, v.ownBlock = some k → w.heap.size ≤ k) ∧ Below w.heap.size w w' := by
  obtain ⟨i0, hi, hz0, hz1, hz2⟩ := info_parts info_u64
  have hmk := mk_words
  have hemp : (w.alloc (.cells (u64s 128).toArray 25)).ownsRow w.heap.size 25 1 (.slice (some ⟨w.heap.size, 0, none⟩) 0 128) 0 [] := ⟨rfl, .inr ⟨w.heap.size, 128, (u64s 128).toArray, rfl, Nat.le_refl _, heap_alloc_new w _, by omega, by unfold maxLen; omega, rfl, rfl⟩⟩
  obtain ⟨us, hus⟩ : ∃ us, u64s 128 = us := ⟨_, rfl⟩
  rw [hus] at hmk hemp
  have MM := Lib.hid M
  have HE := Lib.hid hemp
  have H1 := Lib.hid hi
  have HZ0 := Lib.hid hz0
  have HZ1 := Lib.hid hz1
  have HZ2 := Lib.hid hz2
  have HL := Lib.hid hl
  clear hi hz0 hz1 hz2 hus hemp M hl
  go_enter Tryz.func40, Tryz.ntmps40
  go_wp2_with (first
    | (go_at_call 96; (refine (gm_frames (by first | exact MM.out | exact MM.out.past ((Below.refl _ _).alloc (Nat.le_refl _) _))).mono ?_); rintro e w' ⟨rfl, rfl⟩))
  go_loopw [3, 14] (fun v i wr => ∃ k : Nat, k ≤ 16 ∧ i = .int .i64 k ∧ wr.ownsRow w.heap.size 25 1 v (8 * k) ((mem.take (8 * k)).map u64) ∧ Below w.heap.size w wr) (fun _ i _ => 16 - (intOf i).toNat)
  case atStart => exact ⟨0, by omega, rfl, by simpa using HE.out, (Below.refl _ w).alloc (Nat.le_refl _) _⟩
  case round =>
    obtain ⟨k, hk, rfl, hown, hB⟩ := hrel
    have HO := Lib.hid hown
    clear hown hmk HE
    by_cases h16' : k < 16
    · have hd16 : decide ((k : Int) < 16) = true := by rw [decide_eq_true_iff]; omega
      go_wp2_with fail
      clear hd16
      go_loopw [3, 17] (fun v i wq => ∃ j : Nat, j ≤ 8 ∧ i = .int .i64 j ∧ wq.ownsRow w.heap.size 25 1 v (8 * k + j) ((mem.take (8 * k + j)).map u64) ∧ Below w.heap.size w wq) (fun _ i _ => 8 - (intOf i).toNat)
      case atStart => exact ⟨0, by omega, rfl, by simpa using HO.out, hB⟩
      case round =>
        obtain ⟨j, hj, rfl, hown, hBq⟩ := hrel
        have HQ := Lib.hid hown
        have hsz := hBq.size
        clear hown
        by_cases hj8 : j < 8
        · have hg := gm_get (MM.out.past hBq) (k : Int) (j : Int) _ (rd16_get HL.out k j h16' hj8)
          have hcol : (mem.take (8 * k + (j + 1))).map u64 = (mem.take (8 * k + j)).map u64 ++ [.int .u64 ((mem.getD (8 * k + j) 0 : Nat) : Int)] := by
            rw [← Nat.add_assoc, List.take_add_one, List.map_append]
            have hlt : 8 * k + j < mem.length := by rw [HL.out]; omega
            rw [List.getElem?_eq_getElem hlt, List.getD, List.getElem?_eq_getElem hlt]; rfl
          obtain ⟨x, hx⟩ : ∃ x, mem.getD (8 * k + j) 0 = x := ⟨_, rfl⟩
          rw [hx] at hg hcol
          have HGt := Lib.hid hg
          have HCl := Lib.hid hcol
          clear hcol hg hx
          go_wp2_with (first
            | (go_at_call 21; (with_reducible refine HGt.out.mono ?_); rintro e w' ⟨rfl, rfl⟩)
            | (at_builtin; refine wpList_append_own _ rfl _ _ 66 rfl w.heap.size 25 i0 _ 1 8 Tryz.underlying66 H1.out HZ0.out HZ1.out HZ2.out rfl (by decide) _ _ _ rfl (HQ.out.alloc _) ⟨wr.heap.size, 0, none⟩ 1 1 [.int .u64 (x : Int)] rfl rfl (cell_one_new _ _ _) (fun x hx => by simp at hx; subst hx; rfl) (by unfold maxLen; omega) (by omega) (by simp; omega) ?_; intro v' w3 hown' hgrow3 hnil3; have HO3 := Lib.hid hown'; have HG3 := Lib.hid hgrow3; clear hown' hgrow3 hnil3))
          go_roundw
          case rel =>
            refine ⟨j + 1, by omega, by simp, ?_, (hBq.alloc hsz _).grown HG3.out (by simp; omega) (fun r e => ?_)⟩
            · rw [HCl.out]; exact HO3.out
            · exact ((HQ.out.alloc (.cells #[.int .u64 (x : Int)] 25)).lt r e).1
          case measure => simp [intOf]; omega
        · obtain rfl : j = 8 := by omega
          go_wp2_with fail
          go_roundw
          case rel =>
            exact ⟨k + 1, by omega, by simp, by simpa [Nat.mul_add] using HQ.out, hBq⟩
          case measure => simp [intOf]; omega
    · obtain rfl : k = 16 := by omega
      go_wp2_with fail
      go_ret
      refine ⟨⟨_, rfl, ?_⟩, hB⟩
      have ho := HO.out
      rw [List.take_of_length_le (by rw [HL.out]; omega)] at ho
      rcases ho.2 with ⟨h, _⟩ | ⟨g, cap, cur, rfl, h1, h2, h3, h4, h5, h6⟩
      · omega
      · refine ⟨⟨g, cap, cur.toList.drop (8 * 16 * 1), by rw [HL.out]; rfl, ?_⟩, fun k hk => ?_⟩
        · unfold Blk
          rw [h2, ← h6, List.take_append_drop]
        · simp [Value.ownBlock] at hk; omega

section
variable {w0 w : World} {ts : List Thing} (H : Hold w0 w ts) (i : Nat)
include H
theorem words_h {A : MA} {v : Value} {S : S10} (hi : ts[i]? = some (Go.Proofs.YtgaififhhffpfaaGreatDoor.mdl A v S)) :
    Calls Tryz.prog 40 #[.pointer (some ⟨A.g.p, 0, none⟩)] w fun e w' => ∃ v', e = .returned v' ∧ Hold w0 w' (wds v' S.mem :: ts) := by
  have M : MX w A v S := H.at i hi
  refine (all_words_x w A.g.p A.g.fb S.mem M.g.gm M.g.len).mono ?_
  rintro e w' ⟨⟨v', rfl, hw, hn⟩, hb⟩
  exact ⟨v', rfl, H.add hb (wds v' S.mem) hw hn⟩
theorem gwords_h {A : GA} {mem : List Nat} (hi : ts[i]? = some (gmem A mem)) :
    Calls Tryz.prog 40 #[.pointer (some ⟨A.p, 0, none⟩)] w fun e w' => ∃ v', e = .returned v' ∧ Hold w0 w' (wds v' mem :: ts) := by
  have M : GX w A mem := H.at i hi
  refine (all_words_x w A.p A.fb mem M.gm M.len).mono ?_
  rintro e w' ⟨⟨v', rfl, hw, hn⟩, hb⟩
  exact ⟨v', rfl, H.add hb (wds v' mem) hw hn⟩
/-- two rows of the same words -/
theorem samew_h (j : Nat) {u v : Value} {xs ys : List Nat} (hu : ts[i]? = some (wds u xs)) (hv : ts[j]? = some (wds v ys)) (hx : xs.length = 128) (he : xs = ys) :
    Calls Tryz.prog 39 #[u, v] w fun e w' => e = .returned (.bool true) ∧ Hold w0 w' ts := by
  subst he
  exact (same_wd (H.at i hu) (H.at j hv) hx).mono fun _ _ h => ⟨h.1, H.past h.2⟩
end
end Go.Proofs.YtgaififhhffpfaaGreatDoor
