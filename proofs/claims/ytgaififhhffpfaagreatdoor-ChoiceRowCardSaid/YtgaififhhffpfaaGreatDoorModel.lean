/- model.Model: its state, and the contracts of New, Known, Forget, All, Root, Edit, serves, found. -/
import Derived.Test.YtgaififhhffpfaaGreatDoorPut
import Derived.Test.YtgaififhhffpfaaGreatDoorVa
import Derived.Test.YtgaififhhffpfaaGreatDoorStillP
namespace Go.Proofs.YtgaififhhffpfaaGreatDoor
open Go.RowKit Go.Shelf

/-- A model at p: its TLB at tp with hits l in the slice v; its memory at gp, whose words mem lie in block fb; its root. -/
structure MS (w : World) (p tp gp fb : Nat) (v : Value) (mem : List Nat) (root : Int) (l : List Hit) : Prop where
  hdr : Blk w p 106 [.pointer (some ⟨tp, 0, none⟩), .pointer (some ⟨gp, 0, none⟩), .int .i64 root]
  t : TS w tp 512 v l
  g : GM w gp fb h16 16 mem
  len : mem.length = 128
theorem MS.past {w w' : World} {p tp gp fb : Nat} {v : Value} {mem : List Nat} {root : Int} {l : List Hit} (h : MS w p tp gp fb v mem root l) (hb : Below w.heap.size w w') : MS w' p tp gp fb v mem root l :=
  ⟨h.hdr.past hb, h.t.past hb, h.g.past hb, h.len⟩
/-- what a call may turn of a model's -/
def MSet (p tp fb : Nat) (v : Value) (k : Nat) : Prop := k = p ∨ k = fb ∨ TSet tp v k
theorem TS.types {w : World} {tp most : Nat} {v : Value} {l : List Hit} (T : TS w tp most v l) : ∀ b T' xs, TSet tp v b → Blk w b T' xs → T' = 164 ∨ T' = 49 := by
  intro b T' xs hs hb
  rcases hs with rfl | hs
  · exact .inl (hb.inj T.hdr).2
  · obtain ⟨c, fr, hc⟩ := ownRow_cells T.row _ hs
    unfold Blk at hb; rw [hb] at hc; simp at hc; exact .inr hc.2.1
theorem MS.types {w : World} {p tp gp fb : Nat} {v : Value} {mem : List Nat} {root : Int} {l : List Hit} (M : MS w p tp gp fb v mem root l) : ∀ b T' xs, MSet p tp fb v b → Blk w b T' xs → T' = 106 ∨ T' = 217 ∨ T' = 164 ∨ T' = 49 := by
  intro b T' xs hs hb
  rcases hs with rfl | rfl | hs
  · exact .inl (hb.inj M.hdr).2
  · exact .inr (.inl (hb.inj M.g.row).2)
  · exact .inr (.inr (M.t.types b T' xs hs hb))
theorem MS.keptB {w w' : World} {p tp gp fb : Nat} {v : Value} {mem : List Nat} {root : Int} {l : List Hit} (M : MS w p tp gp fb v mem root l) (hk : Kept w.heap.size (MSet p tp fb v) w w') {b : Nat} {T : TypeId} {xs : List Value} (hb : Blk w b T xs)
    (hT : T ≠ 106 ∧ T ≠ 217 ∧ T ≠ 164 ∧ T ≠ 49) : Blk w' b T xs :=
  hb.kept hk hb.lt (fun hs => by
    rcases M.types b T xs hs hb with h | h | h | h
    · exact hT.1 h
    · exact hT.2.1 h
    · exact hT.2.2.1 h
    · exact hT.2.2.2 h)
theorem MS.keptS {w w' : World} {p tp gp fb : Nat} {v : Value} {mem : List Nat} {root : Int} {l : List Hit} (M : MS w p tp gp fb v mem root l) (hk : Kept w.heap.size (MSet p tp fb v) w w') {a : Option Addr} {q : List (Int × Int)} (hs : Sl w a q) : Sl w' a q := by
  rcases hs with h | ⟨b, rest, h1, h2⟩
  · exact .inl h
  · exact .inr ⟨b, rest, h1, M.keptB hk h2 ⟨by decide, by decide, by decide, by decide⟩⟩
theorem GM.keptT {w w' : World} {p fb n : Nat} {hosts mem : List Nat} {S : Nat → Prop} (h : GM w p fb hosts n mem) (hk : Kept w.heap.size S w w')
    (hS : ∀ b T xs, S b → Blk w b T xs → T = 164 ∨ T = 49 ∨ T = 106 ∨ T = 34) : GM w' p fb hosts n mem := by
  have key : ∀ b T xs, Blk w b T xs → (T ≠ 164 ∧ T ≠ 49 ∧ T ≠ 106 ∧ T ≠ 34) → Blk w' b T xs := fun b T xs hb hT => hb.kept hk hb.lt (fun s => by
    rcases hS b T xs s hb with e | e | e | e
    · exact hT.1 e
    · exact hT.2.1 e
    · exact hT.2.2.1 e
    · exact hT.2.2.2 e)
  obtain ⟨gp, hb', mb, fp, cap, H, G⟩ := h
  obtain ⟨sp, hsp⟩ := G.row
  exact ⟨gp, hb', mb, fp, cap, ⟨key _ _ _ H.hdr (by decide), key _ _ _ H.row (by decide), H.len, H.small, H.bd⟩, ⟨key _ _ _ G.hdr (by decide), key _ _ _ G.gm (by decide), ⟨sp, key _ _ _ hsp (by decide)⟩, G.len, G.bd⟩⟩
theorem HRow.keptK {w w' : World} {v : Value} {l : List Hit} {S : Nat → Prop} (h : HRow w v l) (hk : Kept w.heap.size S w w') (hS : ∀ b, v.ownBlock = some b → ¬ S b) : HRow w' v l := by
  rcases h.view with ⟨rfl, rfl⟩ | ⟨g, cap, rest, rfl, hb, h1, h2, h3⟩
  · exact HRow.nil _
  · exact HRow.mk' (hb.kept hk hb.lt (hS g rfl)) h1 h2 h3
theorem MS.tlb {w w' : World} {p tp gp fb : Nat} {v v' : Value} {mem : List Nat} {root : Int} {l l' : List Hit} (M : MS w p tp gp fb v mem root l) (T' : TS w' tp 512 v' l') (hk : Kept w.heap.size (TSet tp v) w w') : MS w' p tp gp fb v' mem root l' :=
  ⟨M.hdr.kept hk M.hdr.lt (fun s => by rcases M.t.types _ _ _ s M.hdr with e | e <;> exact absurd e (by decide)), T',
    M.g.keptT hk (fun b T xs s hb => (M.t.types b T xs s hb).elim .inl (fun e => .inr (.inl e))), M.len⟩
theorem MS.mem {w w' : World} {p tp gp fb : Nat} {v : Value} {mem mem' : List Nat} {root : Int} {l : List Hit} (M : MS w p tp gp fb v mem root l) (G' : GM w' gp fb h16 16 mem') (hl : mem'.length = 128) (hk : Kept w.heap.size (fun k => k = fb) w w') : MS w' p tp gp fb v mem' root l :=
  ⟨M.g.keptB M.hdr (by decide) hk, ⟨M.g.keptB M.t.hdr (by decide) hk, M.t.row.keptK hk (fun b hb e => by
    subst e
    obtain ⟨c, fr, hc⟩ := ownRow_cells M.t.row _ hb
    have := M.g.row; unfold Blk at this; rw [this] at hc; simp at hc)⟩, G', hl⟩
theorem TSet.sub {p tp fb : Nat} {v : Value} (B : Nat) : ∀ k, k < B → TSet tp v k → MSet p tp fb v k := fun _ _ h => .inr (.inr h)
/-- blocks of other kinds, and no row of the model's, may have turned -/
theorem MS.keptO {w w' : World} {p tp gp fb : Nat} {v : Value} {mem : List Nat} {root : Int} {l : List Hit} {S : Nat → Prop} (M : MS w p tp gp fb v mem root l) (hk : Kept w.heap.size S w w')
    (hT : ∀ b T xs, S b → Blk w b T xs → T = 49 ∨ T = 34) (hrow : ∀ b, v.ownBlock = some b → ¬ S b) : MS w' p tp gp fb v mem root l :=
  ⟨M.hdr.kept hk M.hdr.lt (fun s => by rcases hT _ _ _ s M.hdr with e | e <;> exact absurd e (by decide)),
   ⟨M.t.hdr.kept hk M.t.hdr.lt (fun s => by rcases hT _ _ _ s M.t.hdr with e | e <;> exact absurd e (by decide)), M.t.row.keptK hk hrow⟩,
   M.g.keptT hk (fun b T xs s hb => (hT b T xs s hb).elim (fun e => .inr (.inl e)) (fun e => .inr (.inr (.inr e)))), M.len⟩

theorem modelNew_any (w : World) (gp fb : Nat) (mem : List Nat) (root : Int) (G : GM w gp fb h16 16 mem) (hl : mem.length = 128) :
    Calls Tryz.prog 16 #[.pointer (some ⟨gp, 0, none⟩), .int .i64 root] w
      fun e w' => (∃ p tp, e = .returned (.pointer (some ⟨p, 0, none⟩)) ∧ MS w' p tp gp fb (.slice none 0 0) mem root [] ∧ w.heap.size ≤ p ∧ w.heap.size ≤ tp) ∧ Below w.heap.size w w' := by
  have HG := Lib.hid G
  have HL := Lib.hid hl
  clear G hl
  go_enter Tryz.func16, Tryz.ntmps16
  go_wp2_with (go_at_call 58; (with_reducible refine (tlbNew_any _).mono ?_); rintro e w' ⟨rfl, rfl⟩)
  go_ret
  have b1 := bal w (.cells #[.int .i64 512, .slice none 0 0] 164)
  have b2 := bal (w.alloc (.cells #[.int .i64 512, .slice none 0 0] 164)) (.cells #[.pointer (some ⟨w.heap.size, 0, none⟩), .pointer (some ⟨gp, 0, none⟩), .int .i64 root] 106)
  have t0 := Blk.new w 164 [.int .i64 512, .slice none 0 0]
  have m0 := Blk.new (w.alloc (.cells #[.int .i64 512, .slice none 0 0] 164)) 106 [.pointer (some ⟨w.heap.size, 0, none⟩), .pointer (some ⟨gp, 0, none⟩), .int .i64 root]
  exact ⟨⟨_, _, rfl, ⟨by simpa using m0, ⟨t0.past b2, HRow.nil _⟩, (HG.out.past b1).past b2, HL.out⟩, by simp, Nat.le_refl _⟩, b1.trans (b2.mono b1.size)⟩

set_option maxRecDepth 100000 in
set_option maxHeartbeats 1000000 in
theorem known_any (w : World) (p tp gp fb : Nat) (v : Value) (mem : List Nat) (root : Int) (l : List Hit) (M : MS w p tp gp fb v mem root l) (hsm : l.length ≤ 1000000) (page : Int) (o : Option Hit) (ho : tget l 0 page = o) :
    Calls Tryz.prog 23 #[.pointer (some ⟨p, 0, none⟩), .int .i64 page] w
      fun e w' => e = .returned (.tuple #[.agg #[.int .i64 (o.getD hit0).asid, .int .i64 (o.getD hit0).page, .int .i64 (o.getD hit0).frame, .bool (o.getD hit0).r.w, .bool (o.getD hit0).r.u, .bool (o.getD hit0).r.x, .bool (o.getD hit0).dirty], .bool o.isSome]) ∧ Below w.heap.size w w' := by
  have b0 := bal w (.cells #[.int .i64 0, .int .i64 0, .int .i64 0, .bool false, .bool false, .bool false, .bool false] 49)
  have hz := Blk.new w 49 [.int .i64 0, .int .i64 0, .int .i64 0, .bool false, .bool false, .bool false, .bool false]
  obtain ⟨w0, hw0⟩ : ∃ w0, w.alloc (.cells #[.int .i64 0, .int .i64 0, .int .i64 0, .bool false, .bool false, .bool false, .bool false] 49) = w0 := ⟨_, rfl⟩
  rw [show (w.alloc (.cells [Value.int .i64 0, .int .i64 0, .int .i64 0, .bool false, .bool false, .bool false, .bool false].toArray 49)) = w0 from hw0] at hz
  rw [hw0] at b0
  have hget := tlbGet_any w0 tp 512 v l 0 page (M.past b0).t hsm o ho
  obtain ⟨⟨xa, xp, xf, ⟨xw, xu, xx⟩, xd⟩, hx⟩ : ∃ x, o.getD hit0 = x := ⟨_, rfl⟩
  obtain ⟨is, his⟩ : ∃ b, o.isSome = b := ⟨_, rfl⟩
  rw [hx, his] at hget
  rw [hx, his]
  dsimp only at hget ⊢
  have lp := M.hdr.lt
  have c0 := M.hdr.cell (k := 0) rfl
  have HG := Lib.hid hget
  have HW := Lib.hid hw0
  have HB := Lib.hid b0
  have HZ := Lib.hid hz
  clear hget hw0 b0 hz hx his ho M
  go_enter Tryz.func23, Tryz.ntmps23
  go_wp2_with (go_at_call 71; rw [HW.out]; (with_reducible refine HG.out.mono ?_); rintro e W1 ⟨rfl, b1⟩; have Z1 := HZ.out.past b1; have z0 := Z1.cell (k := 0) rfl; have z1 := Z1.cell (k := 1) rfl; have z2 := Z1.cell (k := 2) rfl; have z3 := Z1.cell (k := 3) rfl; have z4 := Z1.cell (k := 4) rfl; have z5 := Z1.cell (k := 5) rfl; have z6 := Z1.cell (k := 6) rfl; have zf := fun j => Z1.free j)
  obtain ⟨R, BB⟩ := hit_set7 (.int .i64 xa) (.int .i64 xp) (.int .i64 xf) (.bool xw) (.bool xu) (.bool xx) (.bool xd) Z1 (HB.out.trans (b1.mono HB.out.size)) (Nat.le_refl _)
  have r0 := R.cell (k := 0) rfl
  have r1 := R.cell (k := 1) rfl
  have r2 := R.cell (k := 2) rfl
  have r3 := R.cell (k := 3) rfl
  have r4 := R.cell (k := 4) rfl
  have r5 := R.cell (k := 5) rfl
  have r6 := R.cell (k := 6) rfl
  refine bodyPost_ret (v := .tuple #[.agg #[.int .i64 xa, .int .i64 xp, .int .i64 xf, .bool xw, .bool xu, .bool xx, .bool xd], .bool is]) ?_ rfl ⟨rfl, BB⟩
  clear Z1 R BB z0 z1 z2 z3 z4 z5 z6 zf c0
  simp [results, Tryz.results23, go_sem, r0, r1, r2, r3, r4, r5, r6]

theorem forget_any (w : World) (p tp gp fb : Nat) (v : Value) (mem : List Nat) (root : Int) (l : List Hit) (M : MS w p tp gp fb v mem root l) (hsm : l.length ≤ 1000000) (page : Int) :
    Calls Tryz.prog 19 #[.pointer (some ⟨p, 0, none⟩), .int .i64 page] w
      fun e w' => e = .returned (.bool (tget l 0 page).isSome) ∧ ∃ v', MS w' p tp gp fb v' mem root (tdrop l 0 page) ∧ v'.ownBlock = v.ownBlock ∧ Kept w.heap.size (TSet tp v) w w' := by
  have hd := tlbDrop_any w tp 512 v l 0 page M.t hsm
  have c0 := M.hdr.cell (k := 0) rfl
  obtain ⟨is, his⟩ : ∃ b, (tget l 0 page).isSome = b := ⟨_, rfl⟩
  rw [his] at hd ⊢
  have HD := Lib.hid hd
  have HM := Lib.hid M
  clear hd M his
  go_enter Tryz.func19, Tryz.ntmps19
  go_wp2_with (go_at_call 60; (with_reducible refine HD.out.mono ?_); rintro e W1 ⟨rfl, v1, T1, hv1, K1⟩; have HV := Lib.hid hv1; clear hv1)
  go_ret
  exact ⟨rfl, v1, HM.out.tlb T1 K1, HV.out, K1⟩
theorem mall_any (w : World) (p tp gp fb : Nat) (v : Value) (mem : List Nat) (root : Int) (l : List Hit) (M : MS w p tp gp fb v mem root l) (hsm : l.length ≤ 1000000) :
    Calls Tryz.prog 37 #[.pointer (some ⟨p, 0, none⟩)] w fun e w' => (∃ v', e = .returned v' ∧ HRow w' v' l) ∧ Below w.heap.size w w' := by
  have hd := tlbList_any w tp 512 v l M.t hsm
  have c0 := M.hdr.cell (k := 0) rfl
  have HD := Lib.hid hd
  clear hd M
  go_enter Tryz.func37, Tryz.ntmps37
  go_wp2_with (go_at_call 94; (with_reducible refine HD.out.mono ?_); rintro e W1 ⟨⟨v', rfl, h1⟩, b1⟩)
  go_ret
  exact ⟨⟨v', rfl, h1⟩, b1⟩
theorem mroot_any (w : World) (p tp gp fb : Nat) (v : Value) (mem : List Nat) (root : Int) (l : List Hit) (M : MS w p tp gp fb v mem root l) (g : Int) :
    Calls Tryz.prog 30 #[.pointer (some ⟨p, 0, none⟩), .int .i64 g] w
      fun e w' => (∃ r, e = .returned r) ∧ MS w' p tp gp fb (.slice none 0 0) mem g [] ∧ Kept w.heap.size (MSet p tp fb v) w w' := by
  have c0 := M.hdr.cell (k := 0) rfl
  have c2 := M.hdr.cell (k := 2) rfl
  have cf := fun j => M.hdr.free j
  have K0 : Kept w.heap.size (MSet p tp fb v) w (w.setCell ⟨p, 2, none⟩ (.int .i64 g)) := (Kept.refl _ _ _).setCell (p := ⟨p, 2, none⟩) (.inl (.inl rfl)) _
  have T0 : TS (w.setCell ⟨p, 2, none⟩ (.int .i64 g)) tp 512 v l := ⟨M.t.hdr.other (M.t.hdr.ne M.hdr (by decide)) _, M.t.row.other M.hdr (by decide) 2 _⟩
  have M0 : MS (w.setCell ⟨p, 2, none⟩ (.int .i64 g)) p tp gp fb v mem g l := by
    refine ⟨M.hdr.set 2 _, T0, ?_, M.len⟩
    exact M.g.keptT ((Kept.refl w.heap.size (fun k => k = p) w).setCell (p := ⟨p, 2, none⟩) (.inl rfl) _) (fun b T xs s hb => by subst s; exact .inr (.inr (.inl (hb.inj M.hdr).2)))
  have hd := tlbAll_any (w.setCell ⟨p, 2, none⟩ (.int .i64 g)) tp 512 v l T0
  have HD := Lib.hid hd
  have HM := Lib.hid M0
  have HK := Lib.hid K0
  clear hd M M0 K0 T0
  go_enter Tryz.func30, Tryz.ntmps30
  go_wp2_with (go_at_call 79; (with_reducible refine HD.out.mono ?_); rintro e W1 ⟨⟨r, rfl⟩, T1, K1⟩)
  refine bodyPost_end (results_none rfl _ _ _) rfl ⟨⟨_, rfl⟩, HM.out.tlb T1 K1, HK.out.trans (K1.mono (by simp) (fun k hk h => .inr (.inr h)))⟩

/-- does a hit serve an access? -/
def servesH (h : Hit) (kind : Int) (user : Bool) : Bool := may h.r kind user && (h.dirty || decide (kind ≠ 1))
set_option maxRecDepth 100000 in
theorem serves_any (w : World) (h : Hit) (kind : Int) (user b : Bool) (hb : servesH h kind user = b) :
    Calls Tryz.prog 125 #[.agg #[.int .i64 h.asid, .int .i64 h.page, .int .i64 h.frame, .bool h.r.w, .bool h.r.u, .bool h.r.x, .bool h.dirty], .int .i64 kind, .bool user] w
      fun e w' => e = .returned (.bool b) ∧ Below w.heap.size w w' := by
  obtain ⟨a, p, f, ⟨rw', ru, rx⟩, d⟩ := h
  dsimp only
  obtain ⟨mb, hm⟩ : ∃ mb, may ⟨rw', ru, rx⟩ kind user = mb := ⟨_, rfl⟩
  have hmy := fun W => may_open W ⟨rw', ru, rx⟩ kind user mb hm
  have hbe : b = (mb && (d || decide (kind ≠ 1))) := by rw [← hb, ← hm]; rfl
  have HMy := Lib.hid hmy
  have HBe := Lib.hid hbe
  clear hmy hbe hb hm
  have bb := bal w (.cells #[.int .i64 a, .int .i64 p, .int .i64 f, .bool rw', .bool ru, .bool rx, .bool d] 49)
  have hx := Blk.new w 49 [.int .i64 a, .int .i64 p, .int .i64 f, .bool rw', .bool ru, .bool rx, .bool d]
  have HX := Lib.hid hx
  have HBB := Lib.hid bb
  clear hx bb
  by_cases hk : kind = 1
  · subst hk
    cases mb <;> cases d <;>
    · go_enter Tryz.func125, Tryz.ntmps125
      go_wp2_with (go_at_call 117; (with_reducible refine (HMy.out _).mono ?_); rintro e W1 ⟨rfl, b1⟩; have X1 := HX.out.past b1; have x6 := X1.cell (k := 6) rfl)
      go_ret
      exact ⟨by rw [HBe.out]; rfl, HBB.out.trans (b1.mono HBB.out.size)⟩
  · have e1 : (kind == 1) = false := beq_eq_false_iff_ne.2 hk
    have e2 : (kind != 1) = true := bne_iff_ne.2 hk
    have e3 : decide (kind ≠ 1) = true := decide_eq_true hk
    rw [e3] at HBe
    clear hk e3
    cases mb <;> cases d <;>
    · go_enter Tryz.func125, Tryz.ntmps125
      go_wp2_with (go_at_call 117; (with_reducible refine (HMy.out _).mono ?_); rintro e W1 ⟨rfl, b1⟩; have X1 := HX.out.past b1; have x6 := X1.cell (k := 6) rfl)
      go_ret
      exact ⟨by rw [HBe.out]; rfl, HBB.out.trans (b1.mono HBB.out.size)⟩
/-- the hit of a path -/
def foundH (page : Int) (P : Path) (written : Bool) : Hit := ⟨0, page, P.g, P.r, P.dirty || written⟩
theorem found_any (w : World) (page : Int) (a : Option Addr) (n c : Nat) (g : Int) (r : Rt) (lg d wt : Bool) :
    Calls Tryz.prog 82 #[.int .i64 page, .agg #[.slice a n c, .int .i64 g, .bool r.w, .bool r.u, .bool r.x, .bool lg, .bool d], .bool wt] w
      fun e w' => e = .returned (.agg #[.int .i64 0, .int .i64 page, .int .i64 g, .bool r.w, .bool r.u, .bool r.x, .bool (d || wt)]) ∧ Below w.heap.size w w' := by
  obtain ⟨rw', ru, rx⟩ := r
  dsimp only
  cases d
  · go_enter Tryz.func82, Tryz.ntmps82
    go_wp2
    refine bodyPost_ret (v := .agg #[.int .i64 0, .int .i64 page, .int .i64 g, .bool rw', .bool ru, .bool rx, .bool wt]) (by simp [results, Tryz.results82, go_sem]) rfl ⟨by simp, ?_⟩
    go_grown
  · go_enter Tryz.func82, Tryz.ntmps82
    go_wp2
    refine bodyPost_ret (v := .agg #[.int .i64 0, .int .i64 page, .int .i64 g, .bool rw', .bool ru, .bool rx, .bool true]) (by simp [results, Tryz.results82, go_sem]) rfl ⟨by simp, ?_⟩
    go_grown
set_option maxRecDepth 100000 in
theorem edit_any (w : World) (p tp gp fb : Nat) (v : Value) (mem : List Nat) (root : Int) (l : List Hit) (M : MS w p tp gp fb v mem root l) (g i : Int) (x : Nat) (hx : x < 2 ^ 64) :
    Calls Tryz.prog 27 #[.pointer (some ⟨p, 0, none⟩), .int .i64 g, .int .i64 i, .int .u64 (x : Int)] w
      fun e w' => e = .returned (.agg #[.int .i64 (if (place h16 g i).isSome then 0 else 3), .int .u64 0, .int .i64 0, .int .u64 0]) ∧ MS w' p tp gp fb v (wr h16 mem g i x) root l ∧ Kept w.heap.size (MSet p tp fb v) w w' := by
  have b0 := bal w (.cells #[.int .i64 0, .int .u64 0, .int .i64 0, .int .u64 0] 34)
  have hz := Blk.new w 34 [.int .i64 0, .int .u64 0, .int .i64 0, .int .u64 0]
  obtain ⟨w0, hw0⟩ : ∃ w0, w.alloc (.cells #[.int .i64 0, .int .u64 0, .int .i64 0, .int .u64 0] 34) = w0 := ⟨_, rfl⟩
  rw [show (w.alloc (.cells [Value.int .i64 0, .int .u64 0, .int .i64 0, .int .u64 0].toArray 34)) = w0 from hw0] at hz
  rw [hw0] at b0
  have M0 := M.past b0
  have hset := gm_set M0.g g i x hx
  obtain ⟨is, his⟩ : ∃ b, (place h16 g i).isSome = b := ⟨_, rfl⟩
  rw [his] at hset ⊢
  have hzt : w.heap.size ≠ fb := hz.ne M0.g.row (by decide)
  have lp := M.hdr.lt
  have c1 := M.hdr.cell (k := 1) rfl
  have hfin : ∀ W W', GM W gp fb h16 16 (wr h16 mem g i x) → Kept w0.heap.size (fun k => k = fb) w0 W → Kept W.heap.size (fun k => k = w.heap.size) W W' → MS W' p tp gp fb v (wr h16 mem g i x) root l ∧ Kept w.heap.size (MSet p tp fb v) w W' := fun W W' G K K' => by
    have MW := M0.mem G (by rw [wr_len', M0.len]) K
    have hrow : ∀ b, v.ownBlock = some b → ¬ b = w.heap.size := fun b hb e => by have := (M.t.row.lt _ hb).2; omega
    have hZW := hz.kept K hz.lt hzt
    refine ⟨MW.keptO K' (fun b T xs s hb => by subst s; exact .inr (hb.inj hZW).2) hrow, ?_⟩
    exact ((Kept.of_below b0).trans (K.mono b0.size (fun k _ h => .inr (.inl h)))).trans (K'.mono (Nat.le_trans b0.size K.size) (fun k hk h => by omega))
  have HF := Lib.hid hfin
  have HS := Lib.hid hset
  have HW := Lib.hid hw0
  have HZ := Lib.hid hz
  have HZt := Lib.hid hzt
  clear hfin hset hw0 hz hzt M0 M his b0
  cases is
  · go_enter Tryz.func27, Tryz.ntmps27
    go_wp2_with (go_at_call 42; rw [HW.out]; (with_reducible refine HS.out.mono ?_); rintro e W1 ⟨rfl, G1, K1, s1⟩; have Z1 := HZ.out.kept K1 HZ.out.lt HZt.out; have z0 := Z1.cell (k := 0) rfl; have z1 := Z1.cell (k := 1) rfl; have z2 := Z1.cell (k := 2) rfl; have z3 := Z1.cell (k := 3) rfl; have zf := fun j => Z1.free j; clear s1)
    have R := (((Z1.set 0 (.int .i64 3)).set 1 (.int .u64 0)).set 2 (.int .i64 0)).set 3 (.int .u64 0)
    have KK := ((((Kept.refl W1.heap.size (fun k => k = w.heap.size) W1).setCell (p := ⟨w.heap.size, 0, none⟩) (.inl rfl) (.int .i64 3)).setCell (p := ⟨w.heap.size, 1, none⟩) (.inl rfl) (.int .u64 0)).setCell (p := ⟨w.heap.size, 2, none⟩) (.inl rfl) (.int .i64 0)).setCell (p := ⟨w.heap.size, 3, none⟩) (.inl rfl) (.int .u64 0)
    have r0 := R.cell (k := 0) rfl
    have r1 := R.cell (k := 1) rfl
    have r2 := R.cell (k := 2) rfl
    have r3 := R.cell (k := 3) rfl
    refine bodyPost_ret (v := .agg #[.int .i64 3, .int .u64 0, .int .i64 0, .int .u64 0]) ?_ rfl ⟨rfl, HF.out W1 _ G1 K1 KK⟩
    clear Z1 R KK z0 z1 z2 z3 zf c1
    simp [results, Tryz.results27, go_sem, r0, r1, r2, r3]
  · go_enter Tryz.func27, Tryz.ntmps27
    go_wp2_with (go_at_call 42; rw [HW.out]; (with_reducible refine HS.out.mono ?_); rintro e W1 ⟨rfl, G1, K1, s1⟩; have Z1 := HZ.out.kept K1 HZ.out.lt HZt.out; have z0 := Z1.cell (k := 0) rfl; have z1 := Z1.cell (k := 1) rfl; have z2 := Z1.cell (k := 2) rfl; have z3 := Z1.cell (k := 3) rfl; have zf := fun j => Z1.free j; clear s1)
    have R := (((Z1.set 0 (.int .i64 0)).set 1 (.int .u64 0)).set 2 (.int .i64 0)).set 3 (.int .u64 0)
    have KK := ((((Kept.refl W1.heap.size (fun k => k = w.heap.size) W1).setCell (p := ⟨w.heap.size, 0, none⟩) (.inl rfl) (.int .i64 0)).setCell (p := ⟨w.heap.size, 1, none⟩) (.inl rfl) (.int .u64 0)).setCell (p := ⟨w.heap.size, 2, none⟩) (.inl rfl) (.int .i64 0)).setCell (p := ⟨w.heap.size, 3, none⟩) (.inl rfl) (.int .u64 0)
    have r0 := R.cell (k := 0) rfl
    have r1 := R.cell (k := 1) rfl
    have r2 := R.cell (k := 2) rfl
    have r3 := R.cell (k := 3) rfl
    refine bodyPost_ret (v := .agg #[.int .i64 0, .int .u64 0, .int .i64 0, .int .u64 0]) ?_ rfl ⟨rfl, HF.out W1 _ G1 K1 KK⟩
    clear Z1 R KK z0 z1 z2 z3 zf c1
    simp [results, Tryz.results27, go_sem, r0, r1, r2, r3]
end Go.Proofs.YtgaififhhffpfaaGreatDoor
