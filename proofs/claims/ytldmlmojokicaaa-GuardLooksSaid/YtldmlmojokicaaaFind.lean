/- The steps of a walk: what they are, and the contract of the iterator that tells them. A page's walk: what it finds, or what is wrong. -/
import Derived.Test.YtldmlmojokicaaaBlk
import Derived.RangeFuncNested
import Derived.RangeFuncBound
import Derived.RangeFuncCalls
import Derived.RangeFuncLeaves
import Derived.Shelf.Abstract
import Derived.Shelf.RegionOpen
import Derived.OwnWalkIn
import Derived.TacticsInMore
import Derived.LoopNIn
import Derived.LoopIn
import Derived.Deep.RegionHeld3
import Derived.Deep.DeepCutAuto
import Derived.Sort.CutIn
import Derived.Test.YtldmlmojokicaaaPath
import Derived.RangeFuncBox
import Derived.Maps.AppendAt
import Derived.Deep.AppendLies
namespace Go.Proofs.Ytldmlmojokicaaa
open Go.RowKit Go.Shelf
attribute [local go_sem] Oper.semAt_some

/-- A step of a walk: an entry, its level, where it stands, and what is wrong with it. -/
structure St where
  e : Pte
  lv : Nat
  g : Int
  i : Int
  er : Option (Int × Int)
def badE (e : Pte) (lv : Nat) : Bool := e.bad || (e.ps && (decide (lv ≠ 2) || decide (e.f % 8 ≠ 0)))
def lastE (e : Pte) (lv : Nat) : Bool := decide (lv = 1) || e.ps
def stepAt (get : Int → Int → Option Nat) (page : Int) (cd : Bool → Bool → Int) (lv : Nat) (g : Int) : St :=
  { e := pte ((get g (ix page lv)).getD 0), lv := lv, g := g, i := ix page lv,
    er := if (get g (ix page lv)).isNone then some (3, 0) else if (pte ((get g (ix page lv)).getD 0)).p = false then some (1, cd false false)
      else if badE (pte ((get g (ix page lv)).getD 0)) lv = true then some (1, cd true true) else none }
def stepsFrom (get : Int → Int → Option Nat) (page : Int) (cd : Bool → Bool → Int) : Nat → Int → List St
  | 0, _ => []
  | n + 1, g => if (stepAt get page cd (n + 1) g).er.isSome || lastE (stepAt get page cd (n + 1) g).e (n + 1) then [stepAt get page cd (n + 1) g]
      else stepAt get page cd (n + 1) g :: stepsFrom get page cd n ((stepAt get page cd (n + 1) g).e.f : Int)
theorem cin {P : Program} {f : FuncId} {args : Array Value} {w : World} {R : Ending → World → Prop} (n : Nat) (h : Calls P f args w R) : CallsIn Fence.wide n P f args w R := callsIn_wide.2 h
theorem wide3 {f : FuncId} {P : Program} {args : Array Value} {w : World} {R : Ending → World → Prop} {n : Nat} {m : Prop} (h : Calls P f args w R) :
    Fence.wide.fn f ∧ (Fence.wide.depth.isSome = true → m) ∧ CallsIn Fence.wide n P f args w R := ⟨trivial, fun e => (by cases e), cin n h⟩
theorem wide3r {f : FuncId} {P : Program} {args : Array Value} {w : World} {R : Ending → World → Prop} {n : Nat} {m : Prop} (l : Nat) (h : Calls P f args w R) :
    Fence.wide.fn f ∧ (Fence.wide.depth.isSome = true → m) ∧ CallsIn (Fence.wide.inRound l) n P f args w R := ⟨trivial, fun e => (by cases e), cin n h⟩
theorem stepsFrom_end {get : Int → Int → Option Nat} {page : Int} {cd : Bool → Bool → Int} {k : Nat} {g : Int} {s : St} (h : stepAt get page cd (k + 1) g = s) (he : (s.er.isSome || lastE s.e (k + 1)) = true) :
    stepsFrom get page cd (k + 1) g = [s] := by
  subst h; simp only [stepsFrom]; rw [if_pos he]
theorem stepsFrom_on {get : Int → Int → Option Nat} {page : Int} {cd : Bool → Bool → Int} {k : Nat} {g : Int} {s : St} (h : stepAt get page cd (k + 1) g = s) (he : (s.er.isSome || lastE s.e (k + 1)) = false) :
    stepsFrom get page cd (k + 1) g = s :: stepsFrom get page cd k (s.e.f : Int) := by
  subst h; simp only [stepsFrom]; rw [if_neg (by rw [he]; simp)]
def erOf (o : Option Nat) (e : Pte) (lv : Nat) (cd : Bool → Bool → Int) : Option (Int × Int) :=
  if o.isNone then some (3, 0) else if e.p = false then some (1, cd false false) else if badE e lv = true then some (1, cd true true) else none
theorem erOf_np {v : Nat} {e : Pte} {lv : Nat} {cd : Bool → Bool → Int} (h : e.p = false) : erOf (some v) e lv cd = some (1, cd false false) := by simp [erOf, h]
theorem erOf_bad {v : Nat} {e : Pte} {lv : Nat} {cd : Bool → Bool → Int} (h : e.p = true) (hb : badE e lv = true) : erOf (some v) e lv cd = some (1, cd true true) := by simp [erOf, h, hb]
theorem erOf_ok {v : Nat} {e : Pte} {lv : Nat} {cd : Bool → Bool → Int} (h : e.p = true) (hb : badE e lv = false) : erOf (some v) e lv cd = none := by simp [erOf, h, hb]
theorem stepAt_eq {get : Int → Int → Option Nat} {page : Int} {cd : Bool → Bool → Int} {lv : Nat} {g : Int} {o : Option Nat} {e : Pte} (ho : get g (ix page lv) = o) (he : pte (o.getD 0) = e) :
    stepAt get page cd lv g = St.mk e lv g (ix page lv) (erOf o e lv cd) := by
  subst ho; subst he; rfl

end Go.Proofs.Ytldmlmojokicaaa

namespace Go.Proofs.Ytldmlmojokicaaa
open Go.RowKit Go.Shelf
attribute [local go_sem] Oper.semAt_some

def Path.step (p : Path) (s : St) : Path := ⟨p.ats ++ [(s.g, s.i)], (s.e.f : Int), p.r.meet (rtOf s.e), s.e.ps, s.e.d⟩
def foldP (l : List St) : Path := l.foldl Path.step Path.start
theorem foldP_snoc (l : List St) (s : St) : foldP (l ++ [s]) = (foldP l).step s := by simp [foldP]
theorem foldP_len (l : List St) : (foldP l).ats.length = l.length := by
  have : ∀ (l : List St) (p : Path), (l.foldl Path.step p).ats.length = p.ats.length + l.length := by
    intro l
    induction l with
    | nil => intro p; simp
    | cons a l ih => intro p; simp [ih, Path.step]; omega
  have h := this l Path.start
  simpa [foldP, Path.start] using h
theorem info_at : (Try.prog.info? 111).map (fun i => (i.zero, i.size, i.bytes)) = some (some (.agg #[.int .i64 0, .int .i64 0]), 2, 16) := by kernel_rfl

/-- How a walk comes out: a path, or what is wrong. -/
def wkEnd (frames : Nat) (page kind : Int) (user : Bool) (l : List St) : Except (Int × Int) Path :=
  match l.getLast? with
  | some s => match s.er with
    | some e => .error e
    | none => let p := foldP l
      let p' : Path := if p.large then { p with g := p.g + ix page 1 } else p
      if may p'.r kind user = false then .error (1, fcode kind user true false) else if (frames : Int) ≤ p'.g then .error (3, 0) else .ok p'
  | none => .error (0, 0)
def wk (get : Int → Int → Option Nat) (frames : Nat) (root page kind : Int) (user : Bool) : Except (Int × Int) Path :=
  wkEnd frames page kind user (stepsFrom get page (fcode kind user) 3 root)

theorem Blk.own {W W' : World} {row : Option Nat} {b : Nat} {T : TypeId} {xs : List Value} (h : Blk W b T xs) (hg : W.grownBy W' row) (hr : ∀ r, row = some r → ∃ o : Obj, W.heap[r]? = some o ∧ o.isCells = false) : Blk W' b T xs :=
  h.of_heap (hg.block b h.lt (fun e => by
    obtain ⟨o, h1, h2⟩ := hr b e.symm
    unfold Blk at h; rw [h] at h1; cases h1; cases h2))
theorem ownsRow_own {W W' : World} {row : Option Nat} {base : Nat} {e : TypeId} {size : Nat} {v : Value} {k : Nat} {xs : List Value} (h : W.ownsRow base e size v k xs) (hg : W.grownBy W' row)
    (hr : ∀ r, row = some r → ∃ o : Obj, W.heap[r]? = some o ∧ o.isCells = false) : W'.ownsRow base e size v k xs := by
  refine h.kept hg ?_
  cases hv : v.ownBlock with
  | none => exact .inl rfl
  | some g =>
    refine .inr (fun e' => ?_)
    obtain ⟨o, h1, h2⟩ := hr g e'.symm
    rcases h.2 with ⟨e1, _⟩ | ⟨g', cap, cur, e1, _, h3, _⟩
    · subst e1; simp [Value.ownBlock] at hv
    · subst e1; simp [Value.ownBlock] at hv; subst hv; rw [h3] at h1; cases h1; cases h2

theorem Guest.drew {w : World} {p gp hb mb fp : Nat} {hosts : List Nat} {cap n : Nat} (G : Guest w p gp hb mb fp hosts cap n) : Guest w.drew p gp hb mb fp hosts cap n := ⟨G.hdr, G.gm, G.row, G.len, G.bd⟩
def noErr (l : List St) : Prop := ∀ s, s ∈ l → s.er = none
theorem pte_f (v : Nat) : (pte v).f < 1048576 := by unfold pte; dsimp only; omega
theorem stepsFrom_f (get : Int → Int → Option Nat) (page : Int) (cd : Bool → Bool → Int) : ∀ (k : Nat) (g : Int) (s : St), s ∈ stepsFrom get page cd k g → s.e.f < 1048576 := by
  intro k
  induction k with
  | zero => intro g s h; simp [stepsFrom] at h
  | succ k ih =>
    intro g s h
    simp only [stepsFrom] at h
    split at h
    · simp at h; subst h; exact pte_f _
    · rcases List.mem_cons.1 h with h | h
      · subst h; exact pte_f _
      · exact ih _ _ h
theorem stepsFrom_ne (get : Int → Int → Option Nat) (page : Int) (cd : Bool → Bool → Int) (k : Nat) (g : Int) : ∃ q s, stepsFrom get page cd (k + 1) g = q ++ [s] := by
  have h : ∀ l : List St, l ≠ [] → ∃ q s, l = q ++ [s] := fun l hl => ⟨_, _, (List.dropLast_concat_getLast hl).symm⟩
  refine h _ ?_
  simp only [stepsFrom]
  split <;> simp
/-- the end of a walk that told no error -/
def fin (frames : Nat) (page kind : Int) (user : Bool) (p : Path) : Except (Int × Int) Path :=
  if may p.r kind user = false then .error (1, fcode kind user true false) else if (frames : Int) ≤ (if p.large then p.g + ix page 1 else p.g) then .error (3, 0) else .ok { p with g := if p.large then p.g + ix page 1 else p.g }
theorem wkEnd_fin {frames : Nat} {page kind : Int} {user : Bool} {l q : List St} {s : St} (h : l = q ++ [s]) (he : s.er = none) : wkEnd frames page kind user l = fin frames page kind user (foldP l) := by
  subst h
  unfold wkEnd fin
  simp only [List.getLast?_append, List.getLast?_singleton, Option.some_or, he]
  obtain ⟨ats, g, r, large, dirty⟩ := foldP (q ++ [s])
  cases large <;> simp
theorem wkEnd_err {frames : Nat} {page kind : Int} {user : Bool} {l q : List St} {s : St} {e : Int × Int} (h : l = q ++ [s]) (he : s.er = some e) : wkEnd frames page kind user l = .error e := by
  subst h
  unfold wkEnd
  simp only [List.getLast?_append, List.getLast?_singleton, Option.some_or, he]
theorem stepsFrom_noerr {get : Int → Int → Option Nat} {page : Int} {cd : Bool → Bool → Int} : ∀ {k : Nat} {g : Int} {pre q : List St} {s : St}, pre ++ [s] ++ q = stepsFrom get page cd k g → s.er.isSome = true → q = [] := by
  intro k
  induction k with
  | zero => intro g pre q s h; simp [stepsFrom] at h
  | succ k ih =>
    intro g pre q s h he
    simp only [stepsFrom] at h
    split at h
    · cases pre with
      | nil => simp at h; exact h.2
      | cons a pre => simp at h
    · rename_i hc
      cases pre with
      | nil =>
        simp at h
        obtain ⟨h1, _⟩ := h
        rw [← h1, he] at hc; simp at hc
      | cons a pre =>
        simp only [List.cons_append, List.cons.injEq] at h
        exact ih h.2 he
theorem ownRow_cells {W : World} {base : Nat} {e : TypeId} {size k : Nat} {v : Value} {ys : List Value} (h : W.ownsRow base e size v k ys) : ∀ j, v.ownBlock = some j → ∃ c fr, W.heap[j]? = some (.cells c e fr) := by
  intro j hj
  rcases h.2 with ⟨e1, _⟩ | ⟨g', cap, cur, e1, _, h3, _⟩
  · subst e1; simp [Value.ownBlock] at hj
  · subst e1; simp [Value.ownBlock] at hj; subst hj; exact ⟨_, _, h3⟩
theorem ownsRow_base {w : World} {base base' : Nat} {e : TypeId} {size : Nat} {v : Value} {k : Nat} {xs : List Value} (h : w.ownsRow base e size v k xs) (hb : base' ≤ base) : w.ownsRow base' e size v k xs := by
  obtain ⟨h1, h2⟩ := h
  refine ⟨h1, ?_⟩
  rcases h2 with h2 | ⟨g, cap, cur, hv, hg, r⟩
  · exact .inl h2
  · exact .inr ⟨g, cap, cur, hv, Nat.le_trans hb hg, r⟩
theorem KeepsFrom.of_below {B : Nat} {W W' : World} (h : Below W.heap.size W W') : KeepsFrom B W W' := ⟨h.size, fun k _ _ hk _ => (h.block k (lt_of_block hk)).trans hk⟩
theorem Blk.grownRow {W W' : World} {b : Nat} {T : TypeId} {xs : List Value} (h : Blk W b T xs) {base : Nat} {e : TypeId} {size k : Nat} {v : Value} {ys : List Value} (ho : W.ownsRow base e size v k ys) (hT : T ≠ e)
    (hg : W.grownBy W' v.ownBlock) : Blk W' b T xs :=
  h.of_heap (hg.block b h.lt (fun e' => by
    rcases ho.2 with ⟨e1, _⟩ | ⟨g', cap, cur, e1, _, h3, _⟩
    · subst e1; simp [Value.ownBlock] at e'
    · subst e1; simp [Value.ownBlock] at e'; subst e'; unfold Blk at h; rw [h] at h3; simp at h3; exact hT h3.2))
theorem KeepsFrom.setCell (B : Nat) (W : World) (p : Addr) (v : Value) : KeepsFrom B W (W.setCell p v) := (KeepsOthers.setCell W p v).from B
theorem KeepsFrom.grownRow {B : Nat} {W W' : World} {base : Nat} {e : TypeId} {size k : Nat} {v : Value} {ys : List Value} (h : W.ownsRow base e size v k ys) (hg : W.grownBy W' v.ownBlock) : KeepsFrom B W W' :=
  ⟨hg.size, fun k o _ hk ho => (hg.block k (lt_of_block hk) (fun e' => by
    obtain ⟨c, fr, h1⟩ := ownRow_cells h k e'.symm
    rw [hk] at h1; cases h1; cases ho)).trans hk⟩
end Go.Proofs.Ytldmlmojokicaaa
