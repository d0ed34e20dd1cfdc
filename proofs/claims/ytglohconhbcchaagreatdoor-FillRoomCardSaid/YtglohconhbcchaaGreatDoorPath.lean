/- What a walk found; the places of a path as a slice that is read; a guest's memory in one word. right.Meet of two, right.All. A region that draws its order, in a round: it goes as a region elsewhere does, if no operation of it is a defer statement. -/
import Derived.Test.YtglohconhbcchaaGreatDoorBlk
import Derived.Laws.AppendOwn
import Derived.OrdersHeld
import Derived.OwnWalkIn
import Derived.Deep.RegionHeld
import Derived.Deep.RegionHeld3
namespace Go.Proofs.YtglohconhbcchaaGreatDoor
open Go.RowKit

/-- What a walk found. -/
structure Path where
  ats : List (Int × Int)
  g : Int
  r : Rt
  large : Bool
  dirty : Bool
  deriving DecidableEq
def Path.none : Path := ⟨[], 0, ⟨false, false, false⟩, false, false⟩
def Path.start : Path := ⟨[], 0, Rt.all, false, false⟩
def atCells (l : List (Int × Int)) : List Value := l.flatMap fun a => [.int .i64 a.1, .int .i64 a.2]
theorem atCells_snoc (l : List (Int × Int)) (a : Int × Int) : atCells (l ++ [a]) = atCells l ++ [.int .i64 a.1, .int .i64 a.2] := by simp [atCells]
def pathCells (sl : Value) (p : Path) : List Value := [sl, .int .i64 p.g, .bool p.r.w, .bool p.r.u, .bool p.r.x, .bool p.large, .bool p.dirty]


/-- The slice ⟨a, length of l, ..⟩ holds the places l. -/
def Sl (w : World) (a : Option Addr) (l : List (Int × Int)) : Prop :=
  (a = none ∧ l = []) ∨ ∃ b rest, a = some ⟨b, 0, none⟩ ∧ Blk w b 78 (atCells l ++ rest)
theorem Sl.nil (w : World) : Sl w none [] := .inl ⟨rfl, rfl⟩
theorem Sl.past {w w' : World} {a : Option Addr} {l : List (Int × Int)} (h : Sl w a l) (hb : Below w.heap.size w w') : Sl w' a l := by
  rcases h with h | ⟨b, rest, h1, h2⟩
  · exact .inl h
  · exact .inr ⟨b, rest, h1, h2.past hb⟩
theorem Sl.kept {w w' : World} {B : Nat} {S : Nat → Prop} {a : Option Addr} {l : List (Int × Int)} (h : Sl w a l) (hk : Kept B S w w') (hB : w.heap.size ≤ B) (hS : ∀ b, (∃ xs, Blk w b 78 xs) → ¬ S b) : Sl w' a l := by
  rcases h with h | ⟨b, rest, h1, h2⟩
  · exact .inl h
  · exact .inr ⟨b, rest, h1, h2.kept hk (Nat.lt_of_lt_of_le h2.lt hB) (hS b ⟨_, h2⟩)⟩
theorem Sl.of_row {w : World} {base : Nat} {v : Value} {l : List (Int × Int)} (h : w.ownsRow base 78 2 v l.length (atCells l)) : ∃ a c, v = .slice a l.length c ∧ Sl w a l := by
  rcases h.2 with ⟨rfl, h2⟩ | ⟨g, cap, cur, rfl, _, h3, _, _, _, h7⟩
  · have hl : l = [] := by cases l with
      | nil => rfl
      | cons a l => simp at h2
    subst hl
    exact ⟨none, 0, rfl, .inl ⟨rfl, rfl⟩⟩
  · refine ⟨_, _, rfl, .inr ⟨g, cur.toList.drop (l.length * 2), rfl, ?_⟩⟩
    unfold Blk
    rw [h3, ← h7, List.take_append_drop]
theorem atCells_len (l : List (Int × Int)) : (atCells l).length = 2 * l.length := by
  induction l with
  | nil => rfl
  | cons a l ih => simp only [atCells, List.flatMap_cons] at ih ⊢; simp only [List.length_append, List.length_cons, List.length_nil, ih]; omega
theorem atCells_get (l : List (Int × Int)) (k : Nat) (hk : k < l.length) : (atCells l)[k * 2]? = some (.int .i64 (l.getD k (0, 0)).1) ∧ (atCells l)[k * 2 + 1]? = some (.int .i64 (l.getD k (0, 0)).2) := by
  induction l generalizing k with
  | nil => simp at hk
  | cons a l ih =>
    cases k with
    | zero => simp [atCells]
    | succ k =>
      have := ih k (by simpa using hk)
      have e1 : (k + 1) * 2 = k * 2 + 2 := by omega
      rw [e1]
      simpa [atCells, List.getD_cons_succ] using this
theorem Sl.at {w : World} {b : Nat} {l : List (Int × Int)} {rest : List Value} (h : Blk w b 78 (atCells l ++ rest)) (k : Nat) (hk : k < l.length) :
    w.cell? ⟨b, k * 2, none⟩ = some (.int .i64 (l.getD k (0, 0)).1) ∧ w.cell? ⟨b, k * 2 + 1, none⟩ = some (.int .i64 (l.getD k (0, 0)).2) := by
  obtain ⟨h1, h2⟩ := atCells_get l k hk
  have hlen := atCells_len l
  exact ⟨h.cell (by rw [List.getElem?_append_left (by omega)]; exact h1), h.cell (by rw [List.getElem?_append_left (by omega)]; exact h2)⟩


/-- A guest's memory at p, whose words lie in block fb. -/
def GM (w : World) (p fb : Nat) (hosts : List Nat) (n : Nat) (mem : List Nat) : Prop := ∃ gp hb mb fp cap, Host w fp fb n mem ∧ Guest w p gp hb mb fp hosts cap n
theorem GM.past {w w' : World} {p fb n : Nat} {hosts mem : List Nat} (h : GM w p fb hosts n mem) (hb : Below w.heap.size w w') : GM w' p fb hosts n mem := by
  obtain ⟨gp, hb', mb, fp, cap, H, G⟩ := h
  exact ⟨gp, hb', mb, fp, cap, H.past hb, G.past hb⟩
theorem GM.row {w : World} {p fb n : Nat} {hosts mem : List Nat} (h : GM w p fb hosts n mem) : Blk w fb 247 (mem.map u64) := by
  obtain ⟨gp, hb', mb, fp, cap, H, G⟩ := h
  exact H.row
theorem GM.bd {w : World} {p fb n : Nat} {hosts mem : List Nat} (h : GM w p fb hosts n mem) : ∀ v, v ∈ mem → v < 2 ^ 64 := by
  obtain ⟨gp, hb', mb, fp, cap, H, G⟩ := h
  exact H.bd
theorem Blk.ne {w : World} {a b : Nat} {T T' : TypeId} {xs ys : List Value} (h : Blk w a T xs) (h' : Blk w b T' ys) (hT : T ≠ T') : a ≠ b := fun e => by
  subst e; exact hT (h.inj h').2
theorem gm_get {w : World} {p fb n : Nat} {hosts mem : List Nat} (h : GM w p fb hosts n mem) (g i : Int) (o : Option Nat) (ho : rd hosts mem g i = o) :
    Calls Tryz.prog 74 #[.pointer (some ⟨p, 0, none⟩), .int .i64 g, .int .i64 i] w
      fun e w' => e = .returned (.tuple #[.int .u64 ((o.getD 0 : Nat) : Int), .bool o.isSome]) ∧ w = w' := by
  obtain ⟨gp, hb', mb, fp, cap, H, G⟩ := h
  exact get_open w p gp hb' mb fp fb hosts mem cap n g i o ho H G
theorem gm_set {w : World} {p fb n : Nat} {hosts mem : List Nat} (h : GM w p fb hosts n mem) (g i : Int) (v : Nat) (hv : v < 2 ^ 64) :
    Calls Tryz.prog 52 #[.pointer (some ⟨p, 0, none⟩), .int .i64 g, .int .i64 i, .int .u64 (v : Int)] w
      fun e w' => e = .returned (.bool (place hosts g i).isSome) ∧ GM w' p fb hosts n (wr hosts mem g i v) ∧ Kept w.heap.size (fun k => k = fb) w w' ∧ w'.heap.size = w.heap.size := by
  obtain ⟨gp, hb', mb, fp, cap, H, G⟩ := h
  have n0 : fb ≠ fp := H.row.ne H.hdr (by decide)
  have n1 : fb ≠ p := H.row.ne G.hdr (by decide)
  have n2 : fb ≠ gp := H.row.ne G.gm (by decide)
  obtain ⟨sp, hsp⟩ := G.row
  have n3 : fb ≠ hb' := H.row.ne hsp (by decide)
  refine (set_any w p gp hb' mb fp fb hosts mem cap n g i v hv H G n0).mono ?_
  rintro e w' ⟨h1, h2, h3, h4⟩
  exact ⟨h1, ⟨gp, hb', mb, fp, cap, h2, G.kept h3 G.hdr.lt G.gm.lt hsp.lt (Ne.symm n1) (Ne.symm n2) (Ne.symm n3)⟩, h3, h4⟩
theorem GM.keptB {w w' : World} {p fb n : Nat} {hosts mem : List Nat} (h : GM w p fb hosts n mem) {T : TypeId} {b : Nat} {xs : List Value} (hx : Blk w b T xs) (hT : T ≠ 247) (hk : Kept w.heap.size (fun k => k = fb) w w') : Blk w' b T xs :=
  hx.kept hk hx.lt (fun e => by subst e; exact hT (hx.inj h.row).2)
theorem GM.keptS {w w' : World} {p fb n : Nat} {hosts mem : List Nat} (h : GM w p fb hosts n mem) {a : Option Addr} {l : List (Int × Int)} (hs : Sl w a l) (hk : Kept w.heap.size (fun k => k = fb) w w') : Sl w' a l :=
  hs.kept hk (Nat.le_refl _) (fun b ⟨xs, hx⟩ e => by subst e; exact absurd (hx.inj h.row).2 (by decide))
end Go.Proofs.YtglohconhbcchaaGreatDoor

namespace Go.Proofs.YtglohconhbcchaaGreatDoor
open Go.RowKit

theorem all_any (w : World) : Calls Tryz.prog 59 #[] w fun e w' => e = .returned (.agg #[.bool true, .bool true, .bool true]) ∧ Below w.heap.size w w' := by
  go_enter Tryz.func59, Tryz.ntmps59
  go_wp2
  refine bodyPost_ret (v := .agg #[.bool true, .bool true, .bool true]) (by simp [results, Tryz.results59, go_sem]) rfl ⟨rfl, ?_⟩
  go_grown

theorem of_open (w : World) (e : Pte) :
    Calls Tryz.prog 64 #[.agg #[.bool e.p, .bool e.w, .bool e.u, .bool e.a, .bool e.d, .bool e.ps, .bool e.nx, .bool e.bad, .int .i64 (e.f : Int)]] w
      fun r w' => r = .returned (.agg #[.bool e.w, .bool e.u, .bool (!e.nx)]) ∧ Below w.heap.size w w' := of_any w e

set_option maxRecDepth 100000 in
set_option maxHeartbeats 1000000 in
theorem meet2_any (w : World) (b cap : Nat) (a c : Rt) (hb : Blk w b 48 [.bool a.w, .bool a.u, .bool a.x, .bool c.w, .bool c.u, .bool c.x]) :
    Calls Tryz.prog 63 #[.slice (some ⟨b, 0, none⟩) 2 cap] w
      fun r w' => r = .returned (.agg #[.bool (a.w && c.w), .bool (a.u && c.u), .bool (a.x && c.x)]) ∧ Below w.heap.size w w' := by
  have c0 := hb.cell (k := 0) rfl
  have c1 := hb.cell (k := 1) rfl
  have c2 := hb.cell (k := 2) rfl
  have c3 := hb.cell (k := 3) rfl
  have c4 := hb.cell (k := 4) rfl
  have c5 := hb.cell (k := 5) rfl
  have lt := hb.lt
  have lt1 : b < w.heap.size + 1 := by omega
  have lt2 : b < w.heap.size + 1 + 1 := by omega
  have lt3 : b < w.heap.size + 1 + 1 + 1 := by omega
  have lt4 : b < w.heap.size + 1 + 1 + 1 + 1 := by omega
  have lt5 : b < w.heap.size + 1 + 1 + 1 + 1 + 1 := by omega
  clear hb
  obtain ⟨aw, au, ax⟩ := a
  obtain ⟨cw, cu, cx⟩ := c
  dsimp only at *
  obtain ⟨v, hv⟩ : ∃ v, Value.agg #[.bool (aw && cw), .bool (au && cu), .bool (ax && cx)] = v := ⟨_, rfl⟩
  rw [hv]
  have HV := Lib.hid hv
  clear hv
  cases aw <;> cases au <;> cases ax <;>
  · go_enter Tryz.func63, Tryz.ntmps63
    go_wp2
    go_rounds 3
    go_wp2
    refine bodyPost_ret (v := v) (by rw [← HV.out]; simp [results, Tryz.results63, go_sem]) rfl ⟨rfl, ?_⟩
    go_grown
end Go.Proofs.YtglohconhbcchaaGreatDoor

namespace Go.Proofs.YtglohconhbcchaaGreatDoor
open Go.RowKit

theorem wpIn_of_wp {P : Program} {o : Oper} {a : Act} {w : World} {K : Act → World → Prop} {Q : Exit → Act → World → Prop} (n l : Nat) (hd : ∀ c, o.op ≠ .defer c)
    (h : o.wp P a w K Q) : o.wpIn (Fence.wide.inRound l) n P a w K Q := by
  unfold Oper.wp at h
  unfold Oper.wpIn
  refine ⟨fun _ _ => trivial, ?_⟩
  rw [Oper.semAt_plain _ _ _ hd]
  generalize (execOp a.eval o).run P w = r at *
  cases r with
  | ok x w' =>
    cases x <;> simp only [Oper.upon, Oper.uponIn] at h ⊢ <;>
      first
        | exact h
        | exact ⟨fun e => (by cases e), callsIn_wide.2 h⟩
        | exact ⟨fun e => (by cases e), fun c cs _ => let ⟨v, w', r, s⟩ := h c cs; ⟨v, w', r, stepsIn_wide.2 s⟩⟩
  | halt x w' => cases x <;> simp only [Oper.upon, Oper.uponIn] at h ⊢ <;> exact h
theorem wpOpIn_of_wpOp {P : Program} {ops : Array Oper} {i : Nat} {a : Act} {w : World} {K : Act → World → Prop} {Q : Exit → Act → World → Prop} (n l : Nat) (hd : ∀ o, o ∈ ops → ∀ c, o.op ≠ .defer c) (hq : ¬ LetsOut Q)
    (h : wpOp P ops Q i K a w) : wpOpIn (Fence.wide.inRound l) n P ops Q i K a w := by
  unfold wpOp at h
  unfold wpOpIn
  cases ho : ops[i]? with
  | none => rw [ho] at h; exact h
  | some o =>
    rw [ho] at h
    dsimp only at h ⊢
    split
    · rename_i hw
      rw [if_pos hw] at h
      rcases h with h | ⟨_, h⟩
      · exact wpIn_of_wp n l (hd o (Array.mem_of_getElem? ho)) h
      · exact absurd h hq
    · rename_i hw
      rw [if_neg hw] at h
      exact ⟨fun _ _ => trivial, h⟩
theorem wpAnyIn_of_any {P : Program} {md : Region.Mode} {ops : Array Oper} {Q : Exit → Act → World → Prop} (n l : Nat) (hd : ∀ o, o ∈ ops → ∀ c, o.op ≠ .defer c) (hq : ¬ LetsOut Q) :
    ∀ (fuel : Nat) (listed : Array Bool) (a : Act) (w : World), wpAny P md ops Q fuel listed a w → wpAnyIn (Fence.wide.inRound l) n P md ops Q fuel listed a w
  | 0, _, _, _, h => h
  | fuel + 1, _, _, _, h => ⟨h.1, fun i hi => wpOpIn_mono (fun a' w' h' => wpAnyIn_of_any n l hd hq fuel _ a' w' h') (wpOpIn_of_wpOp n l hd hq (h.2 i hi))⟩
/-- The law: in a round, with a condition S on the world that is kept. -/
theorem wpIn_region_held {P : Program} {ops : Array Oper} {Q : Exit → Act → World → Prop} {S : World → Prop} {id : Nat} {a : Act} {w : World} (n l : Nat) (hm : P.follows .mixedOrders = true) (hd : ∀ o, o ∈ ops → ∀ c, o.op ≠ .defer c) (hq : ¬ LetsOut Q)
    (h : wpAnyH P .any ops Q S ops.size (Array.replicate ops.size false) a { w with drawn := w.drawn + 1 }) : (Code.region id ops true).wpIn (Fence.wide.inRound l) n P Q a w :=
  wpIn_region_any hm (wpAnyIn_of_any n l hd hq _ _ _ _ (wpAny_of_held _ _ _ _ h))
/-- the post at a normal end, and no other end -/
def OnlyN (Q : Exit → Act → World → Prop) : Exit → Act → World → Prop
  | .normal, a, w => Q .normal a w
  | _, _, _ => False
theorem OnlyN_normal {Q : Exit → Act → World → Prop} {a : Act} {w : World} (h : Q .normal a w) : OnlyN Q .normal a w := h
theorem OnlyN.imp {Q : Exit → Act → World → Prop} : ∀ (e : Exit) (a : Act) (w : World), OnlyN Q e a w → Q e a w := fun e a w h => by
  cases e <;> first | exact h | cases h
def noDefer (ops : Array Oper) : Bool := ops.toList.all fun o => match o.op with | .defer _ => false | _ => true
theorem noDefer_spec {ops : Array Oper} (h : noDefer ops = true) : ∀ o, o ∈ ops → ∀ c, o.op ≠ .defer c := by
  intro o ho c e
  have := List.all_eq_true.1 h o (by simpa using ho)
  rw [e] at this
  cases this
/-- the same, ready for the walk of 'go_region_held3': a region that ends normally. -/
theorem wpIn_region_calm {P : Program} {ops : Array Oper} {Q : Exit → Act → World → Prop} (S : World → Prop) {id : Nat} {a : Act} {w : World} (n l : Nat) (hm : P.follows .mixedOrders = true) (hd : noDefer ops = true) (hS : S w.drew)
    (h : S w.drew → wpAnyH P .any ops (OnlyN Q) S ops.size (Array.replicate ops.size false) a w.drew) : (Code.region id ops true).wpIn (Fence.wide.inRound l) n P Q a w :=
  wpIn_mono (wpIn_region_held (S := S) n l hm (noDefer_spec hd) (fun ⟨_, _, hq⟩ => hq) (h hS)) OnlyN.imp
/-- the start outside a round -/
theorem wp_region_mine {P : Program} {ops : Array Oper} {Q : Exit → Act → World → Prop} (S : World → Prop) {id : Nat} {a : Act} {w : World} (hm : P.follows .mixedOrders = true) (hS : S w.drew)
    (h : S w.drew → wpAnyH P .any ops (OnlyN Q) S ops.size (Array.replicate ops.size false) a w.drew) : (Code.region id ops true).wp P Q a w :=
  Code.wp_mono OnlyN.imp (wp_region_held_drew hm hS h)
end Go.Proofs.YtglohconhbcchaaGreatDoor
