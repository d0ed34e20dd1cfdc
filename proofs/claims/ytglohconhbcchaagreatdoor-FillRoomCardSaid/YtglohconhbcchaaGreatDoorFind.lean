/- The steps of a walk: what they are, and the contract of the iterator that tells them. A page's walk: what it finds, or what is wrong. -/
import Derived.Test.YtglohconhbcchaaGreatDoorBlk
import Derived.RangeFuncNested
import Derived.RangeFuncBound
import Derived.RangeFuncCalls
import Derived.RangeFuncLeaves
import Derived.Shelf.Abstract
import Derived.Shelf.RegionOpen
import Derived.OwnWalkIn
import Derived.TacticsInMore
import Derived.LoopNIn
import Derived.LoopIn
import Derived.Deep.RegionHeld3
import Derived.Deep.DeepCutAuto
import Derived.Sort.CutIn
import Derived.Test.YtglohconhbcchaaGreatDoorPath
import Derived.RangeFuncBox
import Derived.Maps.AppendAt
import Derived.Deep.AppendLies
namespace Go.Proofs.YtglohconhbcchaaGreatDoor
open Go.RowKit Go.Shelf
attribute [local go_sem] Oper.semAt_some

/-- A step of a walk: an entry, its level, where it stands, and what is wrong with it. -/
structure St where
  e : Pte
  lv : Nat
  g : Int
  i : Int
  er : Option (Int × Int)
def badE (e : Pte) (lv : Nat) : Bool := e.bad || (e.ps && (decide (lv ≠ 2) || decide (e.f % 8 ≠ 0)))
def lastE (e : Pte) (lv : Nat) : Bool := decide (lv = 1) || e.ps
def stepAt (get : Int → Int → Option Nat) (page : Int) (cd : Bool → Bool → Int) (lv : Nat) (g : Int) : St :=
  { e := pte ((get g (ix page lv)).getD 0), lv := lv, g := g, i := ix page lv,
    er := if (get g (ix page lv)).isNone then some (3, 0) else if (pte ((get g (ix page lv)).getD 0)).p = false then some (1, cd false false)
      else if badE (pte ((get g (ix page lv)).getD 0)) lv = true then some (1, cd true true) else none }
def stepsFrom (get : Int → Int → Option Nat) (page : Int) (cd : Bool → Bool → Int) : Nat → Int → List St
  | 0, _ => []
  | n + 1, g => if (stepAt get page cd (n + 1) g).er.isSome || lastE (stepAt get page cd (n + 1) g).e (n + 1) then [stepAt get page cd (n + 1) g]
      else stepAt get page cd (n + 1) g :: stepsFrom get page cd n ((stepAt get page cd (n + 1) g).e.f : Int)
def errv : Option (Int × Int) → Value
  | none => .nilIface
  | some (h, c) => .iface 151 (.agg #[.int .i64 h, .int .i64 c])
def St.val (s : St) : Array Value := #[.bool s.e.p, .bool s.e.w, .bool s.e.u, .bool s.e.a, .bool s.e.d, .bool s.e.ps, .bool s.e.nx, .bool s.e.bad, .int .i64 (s.e.f : Int), .int .i64 (s.lv : Int), .int .i64 s.g, .int .i64 s.i, errv s.er]

theorem bad_any (w : World) (e : Pte) (lv : Nat) (g i : Int) :
    Calls Tryz.prog 181 #[.agg #[.bool e.p, .bool e.w, .bool e.u, .bool e.a, .bool e.d, .bool e.ps, .bool e.nx, .bool e.bad, .int .i64 (e.f : Int), .int .i64 (lv : Int), .int .i64 g, .int .i64 i, .nilIface]] w
      fun r w' => r = .returned (.bool (badE e lv)) ∧ Below w.heap.size w w' := by
  obtain ⟨p, w1, u, a, d, ps, nx, bad, f⟩ := e
  dsimp only
  unfold badE
  dsimp only
  cases bad
  · cases ps
    · go_enter Tryz.func181, Tryz.ntmps181
      go_wp2
      go_ret
      exact ⟨rfl, (Below.refl _ _).alloc (Nat.le_refl _) _⟩
    · by_cases hl : lv = 2
      · subst hl
        have hm : ((f : Int) % 8) = ((f % 8 : Nat) : Int) := rfl
        have hb : decide (f % 8 ≠ 0) = ((f : Int) % 8 != 0) := by rw [Bool.eq_iff_iff, bne_iff_ne, decide_eq_true_iff]; omega
        have Hb := Lib.hid hb
        clear hb hm
        go_enter Tryz.func181, Tryz.ntmps181
        go_wp2
        go_ret
        refine ⟨?_, (Below.refl _ _).alloc (Nat.le_refl _) _⟩
        rw [Hb.out]
        rfl
      · have h2 : ((lv : Int) == 2) = false := by rw [beq_eq_false_iff_ne]; omega
        have h3 : ((lv : Int) != 2) = true := by rw [bne_iff_ne]; omega
        go_enter Tryz.func181, Tryz.ntmps181
        go_wp2
        go_ret
        refine ⟨?_, (Below.refl _ _).alloc (Nat.le_refl _) _⟩
        simp [hl]
  · go_enter Tryz.func181, Tryz.ntmps181
    go_wp2
    go_ret
    exact ⟨rfl, (Below.refl _ _).alloc (Nat.le_refl _) _⟩

theorem last_any (w : World) (e : Pte) (lv : Nat) (g i : Int) :
    Calls Tryz.prog 182 #[.agg #[.bool e.p, .bool e.w, .bool e.u, .bool e.a, .bool e.d, .bool e.ps, .bool e.nx, .bool e.bad, .int .i64 (e.f : Int), .int .i64 (lv : Int), .int .i64 g, .int .i64 i, .nilIface]] w
      fun r w' => r = .returned (.bool (lastE e lv)) ∧ Below w.heap.size w w' := by
  obtain ⟨p, w1, u, a, d, ps, nx, bad, f⟩ := e
  dsimp only
  unfold lastE
  dsimp only
  by_cases hl : lv = 1
  · subst hl
    go_enter Tryz.func182, Tryz.ntmps182
    go_wp2
    go_ret
    exact ⟨rfl, (Below.refl _ _).alloc (Nat.le_refl _) _⟩
  · have h2 : ((lv : Int) == 1) = false := by rw [beq_eq_false_iff_ne]; omega
    go_enter Tryz.func182, Tryz.ntmps182
    go_wp2
    go_ret
    refine ⟨?_, (Below.refl _ _).alloc (Nat.le_refl _) _⟩
    simp [hl]

theorem bad_open (w : World) (e : Pte) (lv : Nat) (li g i : Int) (b : Bool) (hl : (lv : Int) = li) (hb : badE e lv = b) :
    Calls Tryz.prog 181 #[.agg #[.bool e.p, .bool e.w, .bool e.u, .bool e.a, .bool e.d, .bool e.ps, .bool e.nx, .bool e.bad, .int .i64 (e.f : Int), .int .i64 li, .int .i64 g, .int .i64 i, .nilIface]] w
      fun r w' => r = .returned (.bool b) ∧ Below w.heap.size w w' := by subst hl; subst hb; exact bad_any w e lv g i
theorem last_open (w : World) (e : Pte) (lv : Nat) (li g i : Int) (b : Bool) (hl : (lv : Int) = li) (hb : lastE e lv = b) :
    Calls Tryz.prog 182 #[.agg #[.bool e.p, .bool e.w, .bool e.u, .bool e.a, .bool e.d, .bool e.ps, .bool e.nx, .bool e.bad, .int .i64 (e.f : Int), .int .i64 li, .int .i64 g, .int .i64 i, .nilIface]] w
      fun r w' => r = .returned (.bool b) ∧ Below w.heap.size w w' := by subst hl; subst hb; exact last_any w e lv g i

theorem cd_any (w : World) (kb ub : Nat) (kind : Int) (user there bad : Bool) (hk : w.cell? ⟨kb, 0, none⟩ = some (.int .i64 kind)) (hu : w.cell? ⟨ub, 0, none⟩ = some (.bool user)) :
    Calls Tryz.prog 121 #[.bool there, .bool bad, .pointer (some ⟨kb, 0, none⟩), .pointer (some ⟨ub, 0, none⟩)] w
      fun r w' => r = .returned (.int .i64 (fcode kind user there bad)) ∧ w = w' := by
  go_enter Tryz.func121, Tryz.ntmps121
  go_wp2_with (go_at_call 122; refine (code_any _ _ _ _ _).mono ?_; rintro e w' ⟨rfl, rfl⟩)
  go_ret
  exact ⟨rfl, rfl⟩

def St.enc (s : St) : Array Value := #[.agg (St.val s)]
theorem cin {P : Program} {f : FuncId} {args : Array Value} {w : World} {R : Ending → World → Prop} (n : Nat) (h : Calls P f args w R) : CallsIn Fence.wide n P f args w R := callsIn_wide.2 h
theorem wide3 {f : FuncId} {P : Program} {args : Array Value} {w : World} {R : Ending → World → Prop} {n : Nat} {m : Prop} (h : Calls P f args w R) :
    Fence.wide.fn f ∧ (Fence.wide.depth.isSome = true → m) ∧ CallsIn Fence.wide n P f args w R := ⟨trivial, fun e => (by cases e), cin n h⟩
theorem wide3r {f : FuncId} {P : Program} {args : Array Value} {w : World} {R : Ending → World → Prop} {n : Nat} {m : Prop} (l : Nat) (h : Calls P f args w R) :
    Fence.wide.fn f ∧ (Fence.wide.depth.isSome = true → m) ∧ CallsIn (Fence.wide.inRound l) n P f args w R := ⟨trivial, fun e => (by cases e), cin n h⟩
/-- what the iterator has captured -/
structure Env (w : World) (rb pb mb cb kb ub p : Nat) (root page kind : Int) (user : Bool) : Prop where
  rc : Blk w rb 3 [.int .i64 root]
  pc : Blk w pb 3 [.int .i64 page]
  mc : Blk w mb 38 [.pointer (some ⟨p, 0, none⟩)]
  cc : Blk w cb 223 [.func (.func 121) #[] #[.pointer (some ⟨kb, 0, none⟩), .pointer (some ⟨ub, 0, none⟩)]]
  kc : Blk w kb 3 [.int .i64 kind]
  uc : Blk w ub 4 [.bool user]
theorem Env.past {w w' : World} {rb pb mb cb kb ub p : Nat} {root page kind : Int} {user : Bool} (E : Env w rb pb mb cb kb ub p root page kind user) (h : Below w.heap.size w w') : Env w' rb pb mb cb kb ub p root page kind user :=
  ⟨E.rc.past h, E.pc.past h, E.mc.past h, E.cc.past h, E.kc.past h, E.uc.past h⟩
theorem Env.keepT {w w' : World} {rb pb mb cb kb ub p : Nat} {root page kind : Int} {user : Bool} (E : Env w rb pb mb cb kb ub p root page kind user) {S : Nat → Prop} (h : KeepT 78 S w w')
    (hS : ¬ S rb ∧ ¬ S pb ∧ ¬ S mb ∧ ¬ S cb ∧ ¬ S kb ∧ ¬ S ub) : Env w' rb pb mb cb kb ub p root page kind user :=
  ⟨E.rc.keepT h (by decide) hS.1, E.pc.keepT h (by decide) hS.2.1, E.mc.keepT h (by decide) hS.2.2.1, E.cc.keepT h (by decide) hS.2.2.2.1, E.kc.keepT h (by decide) hS.2.2.2.2.1, E.uc.keepT h (by decide) hS.2.2.2.2.2⟩

theorem stepsFrom_end {get : Int → Int → Option Nat} {page : Int} {cd : Bool → Bool → Int} {k : Nat} {g : Int} {s : St} (h : stepAt get page cd (k + 1) g = s) (he : (s.er.isSome || lastE s.e (k + 1)) = true) :
    stepsFrom get page cd (k + 1) g = [s] := by
  subst h; simp only [stepsFrom]; rw [if_pos he]
theorem stepsFrom_on {get : Int → Int → Option Nat} {page : Int} {cd : Bool → Bool → Int} {k : Nat} {g : Int} {s : St} (h : stepAt get page cd (k + 1) g = s) (he : (s.er.isSome || lastE s.e (k + 1)) = false) :
    stepsFrom get page cd (k + 1) g = s :: stepsFrom get page cd k (s.e.f : Int) := by
  subst h; simp only [stepsFrom]; rw [if_neg (by rw [he]; simp)]
def erOf (o : Option Nat) (e : Pte) (lv : Nat) (cd : Bool → Bool → Int) : Option (Int × Int) :=
  if o.isNone then some (3, 0) else if e.p = false then some (1, cd false false) else if badE e lv = true then some (1, cd true true) else none
theorem erOf_np {v : Nat} {e : Pte} {lv : Nat} {cd : Bool → Bool → Int} (h : e.p = false) : erOf (some v) e lv cd = some (1, cd false false) := by simp [erOf, h]
theorem erOf_bad {v : Nat} {e : Pte} {lv : Nat} {cd : Bool → Bool → Int} (h : e.p = true) (hb : badE e lv = true) : erOf (some v) e lv cd = some (1, cd true true) := by simp [erOf, h, hb]
theorem erOf_ok {v : Nat} {e : Pte} {lv : Nat} {cd : Bool → Bool → Int} (h : e.p = true) (hb : badE e lv = false) : erOf (some v) e lv cd = none := by simp [erOf, h, hb]
theorem stepAt_eq {get : Int → Int → Option Nat} {page : Int} {cd : Bool → Bool → Int} {lv : Nat} {g : Int} {o : Option Nat} {e : Pte} (ho : get g (ix page lv) = o) (he : pte (o.getD 0) = e) :
    stepAt get page cd lv g = St.mk e lv g (ix page lv) (erOf o e lv cd) := by
  subst ho; subst he; rfl

set_option maxRecDepth 100000 in
set_option maxHeartbeats 4000000 in
theorem steps_stops (n : Nat) (hn : 3 ≤ n) (S : Nat → Prop) (w : World) (rb pb mb cb kb ub p gp hb mp fp fb : Nat) (hosts mem : List Nat) (cap nf : Nat) (root page kind : Int) (user : Bool)
    (E : Env w rb pb mb cb kb ub p root page kind user) (H : Host w fp fb nf mem) (G : Guest w p gp hb mp fp hosts cap nf)
    (hS : ¬ S rb ∧ ¬ S pb ∧ ¬ S mb ∧ ¬ S cb ∧ ¬ S kb ∧ ¬ S ub) (hS' : ¬ S p ∧ ¬ S gp ∧ ¬ S hb ∧ ¬ S fp ∧ ¬ S fb) (hSn : ∀ k, w.heap.size ≤ k → ¬ S k) :
    SeqStopsK Fence.wide n Tryz.prog 180 #[.pointer (some ⟨rb, 0, none⟩), .pointer (some ⟨pb, 0, none⟩), .pointer (some ⟨mb, 0, none⟩), .pointer (some ⟨cb, 0, none⟩)] St.enc (KeepT 78 S)
      (fun xs => xs = stepsFrom (rd hosts mem) page (fcode kind user) 3 root) (fun pre => ∃ q, pre ++ q = stepsFrom (rd hosts mem) page (fcode kind user) 3 root) 3 w := by
  intro l J Jx W hW hJ hJx hY h0
  have hSn' : ∀ k, W.heap.size ≤ k → ¬ S k := fun k hk => hSn k (Nat.le_trans hW.size hk)
  replace E := E.past hW
  replace H := H.past hW
  replace G := G.past hW
  clear hW hSn w
  have e1 := E.rc.cell (k := 0) rfl
  refine callsIn_of_wp Tryz.func180 rfl trivial ?_ rfl
  simp only [Tryz.ntmps180, List.size_toArray, List.length_cons, List.length_nil, Nat.reduceAdd, Nat.reduceSub, Array.replicate_succ, Array.replicate_zero, List.push_toArray, List.append_toArray, List.nil_append, List.cons_append]
  gi_wp2
  gi_loopw [6, 7] (fun g lv wr => ∃ (k : Nat) (gi : Int) (pre : List St), k ≤ 3 ∧ lv = .int .i64 k ∧ g = .int .i64 gi ∧ pre ++ stepsFrom (rd hosts mem) page (fcode kind user) k gi = stepsFrom (rd hosts mem) page (fcode kind user) 3 root ∧ pre.length + k = 3 ∧ J pre wr ∧ KeepT 78 S W wr)
    (fun _ lv _ => (intOf lv).toNat)
  case atStart => exact ⟨3, root, [], by omega, rfl, rfl, rfl, rfl, h0, KeepT.refl _ _ _⟩
  case round =>
    obtain ⟨k, gi, pre, hk, rfl, rfl, hpre, hlen, hJp, hK⟩ := hrel
    clear h0 e1
    replace E := E.keepT hK hS
    replace H := H.keepT hK hS'.2.2.2.1 hS'.2.2.2.2
    replace G := G.keepT hK hS'.1 hS'.2.1 hS'.2.2.1
    cases k with
    | zero =>
      have HP := Lib.hid hpre
      clear hpre hlen
      gi_wp2
      refine bodyPost_end (results_none rfl _ _ _) rfl ?_
      exact ⟨⟨_, rfl⟩, .inl ⟨pre, by have := HP.out; simpa [stepsFrom] using this, hJp⟩⟩
    | succ k =>
      have HP := Lib.hid hpre
      have HL := Lib.hid hlen
      clear hpre hlen
      have e2 := E.pc.cell (k := 0) rfl
      have gk1 : ((k : Int) + 1) ≤ 3 := by omega
      have lt2 := lt_of_cell e2
      gi_wp2_with fail
      (with_reducible refine wide3 ?_); go_at_call 61
      refine (idx_bel _ _ _).mono ?_
      rintro e w1 ⟨rfl, hb1⟩
      have E1 := E.past hb1
      have H1 := H.past hb1
      have G1 := G.past hb1
      have e3 := E1.mc.cell (k := 0) rfl
      have lt3 := lt_of_cell e3
      clear e2 lt2
      gi_wp2_with fail
      have hb2 := (Below.refl w1.heap.size w1).alloc (Nat.le_refl _) (.cells #[.int .i64 gi, .int .i64 (ix page (↑k + 1))] 78)
      obtain ⟨o, ho⟩ : ∃ o, rd hosts mem gi (ix page (↑k + 1)) = o := ⟨_, rfl⟩
      have hv : o.getD 0 < 2 ^ 64 := ho ▸ rd_lt (hosts := hosts) H.bd gi (ix page ((k : Int) + 1))
      have HO := Lib.hid ho
      clear ho
      (with_reducible refine wide3 ?_); go_at_call 74
      refine (get_open _ _ _ _ _ _ _ _ _ _ _ _ _ _ HO.out (H1.past hb2) (G1.past hb2)).mono ?_
      rintro e w' ⟨rfl, rfl⟩
      clear e3 lt3
      gi_wp2_with fail
      obtain ⟨ep, hep⟩ : ∃ ep, pte (o.getD 0) = ep := ⟨_, rfl⟩
      have HE := Lib.hid hep
      clear hep
      gi_cut [11] from 31 (fun s11 wx => ∃ s : Nat, s11 = .pointer (some ⟨s, 0, none⟩) ∧ Blk wx s 228 [.bool ep.p, .bool ep.w, .bool ep.u, .bool ep.a, .bool ep.d, .bool ep.ps, .bool ep.nx, .bool ep.bad, .int .i64 (ep.f : Int), .int .i64 ((k : Int) + 1), .int .i64 gi, .int .i64 (ix page (↑k + 1)), .nilIface] ∧ Below wr.heap.size wr wx ∧ wr.heap.size ≤ s)
      case first =>
        refine wpIn_wide.2 ?_
        have h12 := hb1.trans (hb2.mono hb1.size)
        have hs1 := hb1.size
        go_region_held3 (fun w' => w'.cell? ⟨w1.heap.size, 0, none⟩ = some (.int .i64 gi) ∧ w'.cell? ⟨w1.heap.size, 1, none⟩ = some (.int .i64 (ix page (↑k + 1)))) (go_keep)
          (first | (go_at_call 62; refine (pget_open _ _ _ HE.out hv).mono ?_; rintro e w2 ⟨rfl, hb3⟩; have d0 := hb3.cell (p := ⟨w1.heap.size, 0, none⟩) (by first | (simp; done) | (simp; omega)); have d1 := hb3.cell (p := ⟨w1.heap.size, 1, none⟩) (by first | (simp; done) | (simp; omega)); have c2 := (bcell hb3).1; have f2 := (bcell hb3).2; have z2 := hb3.size))
        all_goals go_wp2_with fail
        · go_meet
          have hs2 := hb3.size
          simp at hs2
          exact ⟨w2.heap.size, rfl, Blk.new _ _ [_, _, _, _, _, _, _, _, _, _, _, _, _], (h12.drew.trans (hb3.mono (by simp; omega))).alloc (by omega) _, by omega⟩
        · go_meet
          have hs2 := hb3.size
          simp at hs2
          have b0 : Blk w2 (w1.heap.size + 1) 228 [.bool false, .bool false, .bool false, .bool false, .bool false, .bool false, .bool false, .bool false, .int .i64 0, .int .i64 0, .int .i64 0, .int .i64 0, .nilIface] := by
            have h := Blk.new (w1.alloc (.cells #[.int .i64 gi, .int .i64 (ix page (↑k + 1))] 78)) 228 [.bool false, .bool false, .bool false, .bool false, .bool false, .bool false, .bool false, .bool false, .int .i64 0, .int .i64 0, .int .i64 0, .int .i64 0, .nilIface]
            rw [World.size_alloc] at h
            exact h.drew.past hb3
          have hB2 := (((h12.alloc (by simp; omega) _).drew.trans (hb3.mono (by simp; omega))))
          refine ⟨w1.heap.size + 1, rfl, (((((((((((((b0.set 0 _).set 1 _).set 2 _).set 3 _).set 4 _).set 5 _).set 6 _).set 7 _).set 8 _).set 9 _).set 10 _).set 11 _).set 12 _), ?_, by omega⟩
          have hle : wr.heap.size ≤ w1.heap.size + 1 := by omega
          exact ((((((((((((hB2.setCell (p := ⟨_, _, _⟩) hle _).setCell (p := ⟨_, _, _⟩) hle _).setCell (p := ⟨_, _, _⟩) hle _).setCell (p := ⟨_, _, _⟩) hle _).setCell (p := ⟨_, _, _⟩) hle _).setCell (p := ⟨_, _, _⟩) hle _).setCell (p := ⟨_, _, _⟩) hle _).setCell (p := ⟨_, _, _⟩) hle _).setCell (p := ⟨_, _, _⟩) hle _).setCell (p := ⟨_, _, _⟩) hle _).setCell (p := ⟨_, _, _⟩) hle _).setCell (p := ⟨_, _, _⟩) hle _).setCell (p := ⟨_, _, _⟩) hle _
      case rest =>
        obtain ⟨s, rfl, hs, hbx, hle⟩ := hcut
        have c12 := hs.cell (k := 12) rfl
        have c0 := hs.cell (k := 0) rfl
        have fr := fun k => hs.free k
        have lts := hs.lt
        have E2 := E.past hbx
        have kb0 := E2.kc.cell (k := 0) rfl
        have ub0 := E2.uc.cell (k := 0) rfl
        have cb0 := E2.cc.cell (k := 0) rfl
        gi_step
        gi_step
        obtain ⟨ev, hev⟩ : ∃ ev, errv (erOf o ep (k + 1) (fcode kind user)) = ev := ⟨_, rfl⟩
        have HV := Lib.hid hev
        clear hev
        gi_cut [] from 36 (fun wx => Blk wx s 228 [.bool ep.p, .bool ep.w, .bool ep.u, .bool ep.a, .bool ep.d, .bool ep.ps, .bool ep.nx, .bool ep.bad, .int .i64 (ep.f : Int), .int .i64 ((k : Int) + 1), .int .i64 gi, .int .i64 (ix page (↑k + 1)), ev] ∧ Below wr.heap.size wr wx)
        case first =>
          cases o with
          | none =>
            gi_wp2
            gi_meet
            have h := hs.set 12 (errv (some (3, 0)))
            exact ⟨by rw [← HV.out]; exact h, hbx.setCell (p := ⟨s, 12, none⟩) hle _⟩
          | some v =>
            cases hp : ep.p with
            | false =>
              rw [hp] at c0
              have HPp := Lib.hid hp
              clear hp
              gi_wp2_with fail
              (with_reducible refine wide3 ?_); go_at_call 121
              refine (cd_any _ kb ub kind user false false kb0 ub0).mono ?_
              rintro e w' ⟨rfl, rfl⟩
              gi_wp2
              gi_meet
              have h := hs.set 12 (errv (some (1, fcode kind user false false)))
              refine ⟨?_, hbx.setCell (p := ⟨s, 12, none⟩) hle _⟩
              rw [← HV.out, erOf_np HPp.out]
              exact h
            | true =>
              rw [hp] at c0
              have HPp := Lib.hid hp
              clear hp
              have c0' : wc.cell? ⟨s, 0, none⟩ = some (.bool ep.p) := hs.cell (k := 0) rfl
              have c1 := hs.cell (k := 1) rfl
              have c2 := hs.cell (k := 2) rfl
              have c3 := hs.cell (k := 3) rfl
              have c4 := hs.cell (k := 4) rfl
              have c5 := hs.cell (k := 5) rfl
              have c6 := hs.cell (k := 6) rfl
              have c7 := hs.cell (k := 7) rfl
              have c8 := hs.cell (k := 8) rfl
              have c9 := hs.cell (k := 9) rfl
              have c10 := hs.cell (k := 10) rfl
              have c11 := hs.cell (k := 11) rfl
              have C0 := Lib.hid c0'
              clear c0'
              gi_wp2_with fail
              obtain ⟨bb, hbb⟩ : ∃ bb, badE ep (k + 1) = bb := ⟨_, rfl⟩
              have HBB := Lib.hid hbb
              clear hbb
              (with_reducible refine wide3 ?_); go_at_call 181
              have hbo := bad_open wc ep (k + 1) (↑k + 1) gi (ix page (↑k + 1)) bb rfl HBB.out
              rw [HPp.out] at hbo
              refine hbo.mono ?_
              rintro e w3 ⟨rfl, hb4⟩
              have E3 := E2.past hb4
              have hs3 := hs.past hb4
              clear c0 c1 c2 c3 c4 c5 c6 c7 c8 c9 c10 c11 c12 fr lts kb0 ub0 cb0
              have hbx3 := hbx.trans (hb4.mono hbx.size)
              cases bb with
              | false =>
                gi_wp2_with fail
                gi_meet
                refine ⟨?_, hbx3⟩
                rw [← HV.out, erOf_ok HPp.out HBB.out]
                exact hs3
              | true =>
                have c12 := hs3.cell (k := 12) rfl
                have fr := fun k => hs3.free k
                have lts := hs3.lt
                have kb0 := E3.kc.cell (k := 0) rfl
                have ub0 := E3.uc.cell (k := 0) rfl
                have cb0 := E3.cc.cell (k := 0) rfl
                gi_wp2_with fail
                (with_reducible refine wide3 ?_); go_at_call 121
                refine (cd_any _ kb ub kind user true true kb0 ub0).mono ?_
                rintro e w' ⟨rfl, rfl⟩
                gi_wp2
                gi_meet
                have h := hs3.set 12 (errv (some (1, fcode kind user true true)))
                refine ⟨?_, hbx3.setCell (p := ⟨s, 12, none⟩) hle _⟩
                rw [← HV.out, erOf_bad HPp.out HBB.out]
                exact h
        case rest =>
          obtain ⟨hs', hbx'⟩ := hcut
          clear hs hbx c12 c0 fr lts E2 kb0 ub0 cb0
          have hJ1 : J pre wc := hJ _ _ _ none hJp (grownBy_of_below hbx') (by simp)
          obtain ⟨sp, hsp⟩ : ∃ sp, St.mk ep (k + 1) gi (ix page (↑k + 1)) (erOf o ep (k + 1) (fcode kind user)) = sp := ⟨_, rfl⟩
          have hst : stepAt (rd hosts mem) page (fcode kind user) (k + 1) gi = sp := (stepAt_eq HO.out HE.out).trans hsp
          have hpre : ∃ q, (pre ++ [sp]) ++ q = stepsFrom (rd hosts mem) page (fcode kind user) 3 root := by
            rw [← HP.out]
            cases hc : (sp.er.isSome || lastE sp.e (k + 1)) with
            | true => exact ⟨[], by rw [stepsFrom_end hst hc]; simp⟩
            | false => exact ⟨_, by rw [stepsFrom_on hst hc, List.append_assoc]; rfl⟩
          have hen : sp.enc = #[.agg #[.bool ep.p, .bool ep.w, .bool ep.u, .bool ep.a, .bool ep.d, .bool ep.ps, .bool ep.nx, .bool ep.bad, .int .i64 (ep.f : Int), .int .i64 ((k : Int) + 1), .int .i64 gi, .int .i64 (ix page (↑k + 1)), ev]] := by
            rw [← hsp, ← HV.out]; rfl
          obtain ⟨fn, tmps, assign, body, hy, hR⟩ := hY pre sp wc hJ1 (by have := HL.out; omega)
          rw [hen] at hy
          have HS := Lib.hid hsp
          have HT := Lib.hid hst
          have HQ := Lib.hid hpre
          have HB := Lib.hid hbx'
          clear hen hsp hst hpre hbx'
          have c0 := hs'.cell (k := 0) rfl
          have c1 := hs'.cell (k := 1) rfl
          have c2 := hs'.cell (k := 2) rfl
          have c3 := hs'.cell (k := 3) rfl
          have c4 := hs'.cell (k := 4) rfl
          have c5 := hs'.cell (k := 5) rfl
          have c6 := hs'.cell (k := 6) rfl
          have c7 := hs'.cell (k := 7) rfl
          have c8 := hs'.cell (k := 8) rfl
          have c9 := hs'.cell (k := 9) rfl
          have c10 := hs'.cell (k := 10) rfl
          have c11 := hs'.cell (k := 11) rfl
          have c12 := hs'.cell (k := 12) rfl
          gi_wp2
          refine ⟨fun _ => by omega, hR.mono ?_⟩
          clear hy hR c0 c1 c2 c3 c4 c5 c6 c7 c8 c9 c10 c11 c12
          rintro e W' (⟨rfl, hJ', hk'⟩ | ⟨rfl, hJx'⟩)
          · have hs2 := hs'.keepT hk' (by decide) (hSn' s (Nat.le_trans hK.size hle))
            cases he : erOf o ep (k + 1) (fcode kind user) with
            | some hc =>
              obtain ⟨h, c⟩ := hc
              have hev : ev = .iface 151 (.agg #[.int .i64 h, .int .i64 c]) := by rw [← HV.out, he]; rfl
              have c12 := hs2.cell (k := 12) rfl
              rw [hev] at c12
              have HEr := Lib.hid he
              clear he hev hs' hs2
              gi_wp2
              refine ⟨trivial, ?_⟩
              gi_wp2
              refine bodyPost_ret (results_none rfl _ _ _) rfl ?_
              refine ⟨⟨_, rfl⟩, .inl ⟨pre ++ [sp], ?_, hJ'⟩⟩
              rw [← HP.out, stepsFrom_end HT.out (by rw [← HS.out]; simp [HEr.out])]
            | none =>
              have hev : ev = .nilIface := by rw [← HV.out, he]; rfl
              subst hev
              have c0 := hs2.cell (k := 0) rfl
              have c1 := hs2.cell (k := 1) rfl
              have c2 := hs2.cell (k := 2) rfl
              have c3 := hs2.cell (k := 3) rfl
              have c4 := hs2.cell (k := 4) rfl
              have c5 := hs2.cell (k := 5) rfl
              have c6 := hs2.cell (k := 6) rfl
              have c7 := hs2.cell (k := 7) rfl
              have c8 := hs2.cell (k := 8) rfl
              have c9 := hs2.cell (k := 9) rfl
              have c10 := hs2.cell (k := 10) rfl
              have c11 := hs2.cell (k := 11) rfl
              have c12 := hs2.cell (k := 12) rfl
              have HEr := Lib.hid he
              clear he
              obtain ⟨lb, hlb⟩ : ∃ lb, lastE ep (k + 1) = lb := ⟨_, rfl⟩
              have HLB := Lib.hid hlb
              clear hlb
              gi_wp2_with fail
              (with_reducible refine wide3 ?_); go_at_call 182
              have hlo := last_open W' ep (k + 1) (↑k + 1) gi (ix page (↑k + 1)) lb rfl HLB.out
              refine hlo.mono ?_
              rintro e w5 ⟨rfl, hb5⟩
              have hJ5 : J (pre ++ [sp]) w5 := hJ _ _ _ none hJ' (grownBy_of_below hb5) (by simp)
              have hs5 := hs2.past hb5
              clear hs' hs2 c0 c1 c2 c3 c4 c5 c6 c7 c8 c9 c10 c11 c12
              cases lb with
              | true =>
                gi_wp2
                refine bodyPost_ret (results_none rfl _ _ _) rfl ?_
                refine ⟨⟨_, rfl⟩, .inl ⟨pre ++ [sp], ?_, hJ5⟩⟩
                rw [← HP.out, stepsFrom_end HT.out (by rw [← HS.out]; simp [HLB.out])]
              | false =>
                have c8 := hs5.cell (k := 8) rfl
                gi_wp2
                go_roundw
                case rel =>
                  refine ⟨k, (ep.f : Int), pre ++ [sp], by omega, by go_num, rfl, ?_, by have := HL.out; simp; omega, hJ5, ?_⟩
                  · rw [← HP.out, stepsFrom_on HT.out (by rw [← HS.out]; simp [HLB.out, HEr.out]), List.append_assoc, ← HS.out]; rfl
                  · exact ((hK.trans (KeepT.of_below HB.out)).trans hk').trans (KeepT.of_below hb5)
                case measure => simp [intOf]
          · gi_wp2
            refine ⟨trivial, ?_⟩
            gi_wp2
            refine bodyPost_ret (results_none rfl _ _ _) rfl ?_
            exact ⟨⟨_, rfl⟩, .inr ⟨pre ++ [sp], HQ.out, hJx'⟩⟩
end Go.Proofs.YtglohconhbcchaaGreatDoor

namespace Go.Proofs.YtglohconhbcchaaGreatDoor
open Go.RowKit Go.Shelf
attribute [local go_sem] Oper.semAt_some

def Path.step (p : Path) (s : St) : Path := ⟨p.ats ++ [(s.g, s.i)], (s.e.f : Int), p.r.meet (rtOf s.e), s.e.ps, s.e.d⟩
def foldP (l : List St) : Path := l.foldl Path.step Path.start
theorem foldP_snoc (l : List St) (s : St) : foldP (l ++ [s]) = (foldP l).step s := by simp [foldP]
theorem foldP_len (l : List St) : (foldP l).ats.length = l.length := by
  have : ∀ (l : List St) (p : Path), (l.foldl Path.step p).ats.length = p.ats.length + l.length := by
    intro l
    induction l with
    | nil => intro p; simp
    | cons a l ih => intro p; simp [ih, Path.step]; omega
  have h := this l Path.start
  simpa [foldP, Path.start] using h
theorem info_at : (Tryz.prog.info? 78).map (fun i => (i.zero, i.size, i.bytes)) = some (some (.agg #[.int .i64 0, .int .i64 0]), 2, 16) := by kernel_rfl

theorem steps_blk (w : World) (p : Addr) (root page : Int) (f : Fn) (lb : Array Value) :
    Calls Tryz.prog 123 #[.pointer (some p), .int .i64 root, .int .i64 page, .func f #[] lb] w
      fun e w' => (∃ rb pb mb cb : Nat, e = .returned (.func (.func 180) #[] #[.pointer (some ⟨rb, 0, none⟩), .pointer (some ⟨pb, 0, none⟩), .pointer (some ⟨mb, 0, none⟩), .pointer (some ⟨cb, 0, none⟩)]) ∧
        Blk w' rb 3 [.int .i64 root] ∧ Blk w' pb 3 [.int .i64 page] ∧ Blk w' mb 38 [.pointer (some p)] ∧ Blk w' cb 223 [.func f #[] lb] ∧ w.heap.size ≤ rb ∧ w.heap.size ≤ pb ∧ w.heap.size ≤ mb ∧ w.heap.size ≤ cb) ∧ Below w.heap.size w w' := by
  go_enter Tryz.func123, Tryz.ntmps123
  go_wp2
  go_ret
  have h1 := Blk.new w 38 [.pointer (some p)]
  have h2 := Blk.new (w.alloc (.cells #[.pointer (some p)] 38)) 3 [.int .i64 root]
  have h3 := Blk.new ((w.alloc (.cells #[.pointer (some p)] 38)).alloc (.cells #[.int .i64 root] 3)) 3 [.int .i64 page]
  have h4 := Blk.new (((w.alloc (.cells #[.pointer (some p)] 38)).alloc (.cells #[.int .i64 root] 3)).alloc (.cells #[.int .i64 page] 3)) 223 [.func f #[] lb]
  simp only [World.size_alloc] at h2 h3 h4
  exact ⟨⟨_, _, _, _, rfl, (h2.alloc _).alloc _, h3.alloc _, ((h1.alloc _).alloc _).alloc _, h4, by omega, by omega, by omega, by omega⟩,
    ((((Below.refl _ w).alloc (Nat.le_refl _) _).alloc (by simp) _).alloc (by simp; omega) _).alloc (by simp; omega) _⟩

/-- How a walk comes out: a path, or what is wrong. -/
def wkEnd (frames : Nat) (page kind : Int) (user : Bool) (l : List St) : Except (Int × Int) Path :=
  match l.getLast? with
  | some s => match s.er with
    | some e => .error e
    | none => let p := foldP l
      let p' : Path := if p.large then { p with g := p.g + ix page 1 } else p
      if may p'.r kind user = false then .error (1, fcode kind user true false) else if (frames : Int) ≤ p'.g then .error (3, 0) else .ok p'
  | none => .error (0, 0)
def wk (get : Int → Int → Option Nat) (frames : Nat) (root page kind : Int) (user : Bool) : Except (Int × Int) Path :=
  wkEnd frames page kind user (stepsFrom get page (fcode kind user) 3 root)

def FindPost (w : World) (r : Except (Int × Int) Path) (e : Ending) (w' : World) : Prop :=
  Below w.heap.size w w' ∧ match r with
  | .error (h, c) => e = .returned (.tuple #[.agg #[.slice none 0 0, .int .i64 0, .bool false, .bool false, .bool false, .bool false, .bool false], .iface 151 (.agg #[.int .i64 h, .int .i64 c])])
  | .ok p => ∃ sl, e = .returned (.tuple #[.agg (pathCells sl p).toArray, .nilIface]) ∧ w'.ownsRow w.heap.size 78 2 sl p.ats.length (atCells p.ats)

theorem Blk.own {W W' : World} {row : Option Nat} {b : Nat} {T : TypeId} {xs : List Value} (h : Blk W b T xs) (hg : W.grownBy W' row) (hr : ∀ r, row = some r → ∃ o : Obj, W.heap[r]? = some o ∧ o.isCells = false) : Blk W' b T xs :=
  h.of_heap (hg.block b h.lt (fun e => by
    obtain ⟨o, h1, h2⟩ := hr b e.symm
    unfold Blk at h; rw [h] at h1; cases h1; cases h2))
theorem ownsRow_own {W W' : World} {row : Option Nat} {base : Nat} {e : TypeId} {size : Nat} {v : Value} {k : Nat} {xs : List Value} (h : W.ownsRow base e size v k xs) (hg : W.grownBy W' row)
    (hr : ∀ r, row = some r → ∃ o : Obj, W.heap[r]? = some o ∧ o.isCells = false) : W'.ownsRow base e size v k xs := by
  refine h.kept hg ?_
  cases hv : v.ownBlock with
  | none => exact .inl rfl
  | some g =>
    refine .inr (fun e' => ?_)
    obtain ⟨o, h1, h2⟩ := hr g e'.symm
    rcases h.2 with ⟨e1, _⟩ | ⟨g', cap, cur, e1, _, h3, _⟩
    · subst e1; simp [Value.ownBlock] at hv
    · subst e1; simp [Value.ownBlock] at hv; subst hv; rw [h3] at h1; cases h1; cases h2

theorem Guest.drew {w : World} {p gp hb mb fp : Nat} {hosts : List Nat} {cap n : Nat} (G : Guest w p gp hb mb fp hosts cap n) : Guest w.drew p gp hb mb fp hosts cap n := ⟨G.hdr, G.gm, G.row, G.len, G.bd⟩
theorem frames_any (w : World) (p gp hb mb fp : Nat) (hosts : List Nat) (cap n : Nat) (G : Guest w p gp hb mb fp hosts cap n) :
    Calls Tryz.prog 82 #[.pointer (some ⟨p, 0, none⟩)] w fun e w' => e = .returned (.int .i64 (hosts.length : Int)) ∧ w = w' := by
  have b1 := G.hdr.cell (k := 0) rfl
  have c1 := G.gm.cell (k := 0) rfl
  go_enter Tryz.func82, Tryz.ntmps82
  go_wp2
  go_ret
  exact ⟨rfl, rfl⟩

def noErr (l : List St) : Prop := ∀ s, s ∈ l → s.er = none
/-- between two rounds -/
def FI (w : World) (pB rB eB : Nat) (pre : List St) (W : World) : Prop :=
  (noErr pre ∧ (∃ sl, Blk W pB 71 (pathCells sl (foldP pre)) ∧ W.ownsRow w.heap.size 78 2 sl pre.length (atCells (foldP pre).ats)) ∧
    Blk W rB 71 (pathCells (.slice none 0 0) Path.none) ∧ Blk W eB 147 [.nilIface]) ∧ Below w.heap.size w W
/-- the round left, with what is wrong -/
def FX (w : World) (rB eB : Nat) (c : Code) (pre : List St) (W : World) : Prop :=
  (c = .ret ∧ (∃ q s h cd, pre = q ++ [s] ∧ s.er = some (h, cd) ∧ Blk W eB 147 [.iface 151 (.agg #[.int .i64 h, .int .i64 cd])]) ∧ Blk W rB 71 (pathCells (.slice none 0 0) Path.none)) ∧ Below w.heap.size w W

theorem pte_f (v : Nat) : (pte v).f < 1048576 := by unfold pte; dsimp only; omega
theorem stepsFrom_f (get : Int → Int → Option Nat) (page : Int) (cd : Bool → Bool → Int) : ∀ (k : Nat) (g : Int) (s : St), s ∈ stepsFrom get page cd k g → s.e.f < 1048576 := by
  intro k
  induction k with
  | zero => intro g s h; simp [stepsFrom] at h
  | succ k ih =>
    intro g s h
    simp only [stepsFrom] at h
    split at h
    · simp at h; subst h; exact pte_f _
    · rcases List.mem_cons.1 h with h | h
      · subst h; exact pte_f _
      · exact ih _ _ h
theorem stepsFrom_ne (get : Int → Int → Option Nat) (page : Int) (cd : Bool → Bool → Int) (k : Nat) (g : Int) : ∃ q s, stepsFrom get page cd (k + 1) g = q ++ [s] := by
  have h : ∀ l : List St, l ≠ [] → ∃ q s, l = q ++ [s] := fun l hl => ⟨_, _, (List.dropLast_concat_getLast hl).symm⟩
  refine h _ ?_
  simp only [stepsFrom]
  split <;> simp
/-- the end of a walk that told no error -/
def fin (frames : Nat) (page kind : Int) (user : Bool) (p : Path) : Except (Int × Int) Path :=
  if may p.r kind user = false then .error (1, fcode kind user true false) else if (frames : Int) ≤ (if p.large then p.g + ix page 1 else p.g) then .error (3, 0) else .ok { p with g := if p.large then p.g + ix page 1 else p.g }
theorem wkEnd_fin {frames : Nat} {page kind : Int} {user : Bool} {l q : List St} {s : St} (h : l = q ++ [s]) (he : s.er = none) : wkEnd frames page kind user l = fin frames page kind user (foldP l) := by
  subst h
  unfold wkEnd fin
  simp only [List.getLast?_append, List.getLast?_singleton, Option.some_or, he]
  obtain ⟨ats, g, r, large, dirty⟩ := foldP (q ++ [s])
  cases large <;> simp
theorem wkEnd_err {frames : Nat} {page kind : Int} {user : Bool} {l q : List St} {s : St} {e : Int × Int} (h : l = q ++ [s]) (he : s.er = some e) : wkEnd frames page kind user l = .error e := by
  subst h
  unfold wkEnd
  simp only [List.getLast?_append, List.getLast?_singleton, Option.some_or, he]
theorem stepsFrom_noerr {get : Int → Int → Option Nat} {page : Int} {cd : Bool → Bool → Int} : ∀ {k : Nat} {g : Int} {pre q : List St} {s : St}, pre ++ [s] ++ q = stepsFrom get page cd k g → s.er.isSome = true → q = [] := by
  intro k
  induction k with
  | zero => intro g pre q s h; simp [stepsFrom] at h
  | succ k ih =>
    intro g pre q s h he
    simp only [stepsFrom] at h
    split at h
    · cases pre with
      | nil => simp at h; exact h.2
      | cons a pre => simp at h
    · rename_i hc
      cases pre with
      | nil =>
        simp at h
        obtain ⟨h1, _⟩ := h
        rw [← h1, he] at hc; simp at hc
      | cons a pre =>
        simp only [List.cons_append, List.cons.injEq] at h
        exact ih h.2 he
theorem ownRow_cells {W : World} {base : Nat} {e : TypeId} {size k : Nat} {v : Value} {ys : List Value} (h : W.ownsRow base e size v k ys) : ∀ j, v.ownBlock = some j → ∃ c fr, W.heap[j]? = some (.cells c e fr) := by
  intro j hj
  rcases h.2 with ⟨e1, _⟩ | ⟨g', cap, cur, e1, _, h3, _⟩
  · subst e1; simp [Value.ownBlock] at hj
  · subst e1; simp [Value.ownBlock] at hj; subst hj; exact ⟨_, _, h3⟩
/-- behind the loop -/
def RD (wK : World) (pB rB eB D : Nat) (sl : Value) (p : Path) (wx : World) : Prop :=
  Blk wx pB 71 (pathCells sl p) ∧ wx.ownsRow wK.heap.size 78 2 sl p.ats.length (atCells p.ats) ∧ Blk wx rB 71 (pathCells (.slice none 0 0) Path.none) ∧ Blk wx eB 147 [.nilIface] ∧
    Below wK.heap.size wK wx ∧ wx.heap[D]? = some (.deferred (some []))
theorem RD.past {wK : World} {pB rB eB D : Nat} {sl : Value} {p : Path} {wx wy : World} (h : RD wK pB rB eB D sl p wx) (hb : Below wx.heap.size wx wy) : RD wK pB rB eB D sl p wy := by
  obtain ⟨h1, h2, h3, h4, h5, h6⟩ := h
  exact ⟨h1.past hb, h2.kept (grownBy_of_below hb) (by cases hv : sl.ownBlock <;> simp), h3.past hb, h4.past hb, h5.trans (hb.mono h5.size), (hb.block D (lt_of_block h6)).trans h6⟩
theorem RD.setG {wK : World} {pB rB eB D : Nat} {sl : Value} {p : Path} {wx : World} (h : RD wK pB rB eB D sl p wx) (n2 : rB ≠ pB) (n3 : eB ≠ pB) (n4 : wK.heap.size ≤ pB) (g : Int) :
    RD wK pB rB eB D sl { p with g := g } (wx.setCell ⟨pB, 1, none⟩ (.int .i64 g)) := by
  obtain ⟨h1, h2, h3, h4, h5, h6⟩ := h
  refine ⟨h1.set 1 _, ownsRow_setCell_other h2 ?_ _, h3.other n2 _, h4.other n3 _, h5.setCell (p := ⟨pB, 1, none⟩) n4 _, ?_⟩
  · intro e
    obtain ⟨c, fr, hc⟩ := ownRow_cells h2 _ e
    unfold Blk at h1; rw [h1] at hc; simp at hc
  · refine (Below.heap_setCell _ _ _ _ (fun e => ?_)).trans h6
    subst e; unfold Blk at h1; rw [h1] at h6; cases h6
/-- at the end: what the results' places hold -/
def RF (wK : World) (rB eB D : Nat) (sl : Value) (k : Nat) (ys : List Value) (xs es : List Value) (wx : World) : Prop :=
  Blk wx rB 71 xs ∧ Blk wx eB 147 es ∧ wx.ownsRow wK.heap.size 78 2 sl k ys ∧ Below wK.heap.size wK wx ∧ wx.heap[D]? = some (.deferred (some []))
theorem RF.drew {wK : World} {rB eB D : Nat} {sl : Value} {k : Nat} {ys xs es : List Value} {wx : World} (h : RF wK rB eB D sl k ys xs es wx) : RF wK rB eB D sl k ys xs es wx.drew := ⟨h.1, h.2.1, h.2.2.1, h.2.2.2.1.drew, h.2.2.2.2⟩
theorem RF.setAny {wK : World} {rB eB D : Nat} {sl : Value} {k : Nat} {ys xs es : List Value} {wx : World} (h : RF wK rB eB D sl k ys xs es wx) {b : Nat} {T : TypeId} {zs : List Value} (hb : Blk wx b T zs) (hT : T ≠ 78) (n4 : wK.heap.size ≤ b) (j : Nat) (v : Value) :
    (wx.setCell ⟨b, j, none⟩ v).ownsRow wK.heap.size 78 2 sl k ys ∧ Below wK.heap.size wK (wx.setCell ⟨b, j, none⟩ v) ∧ (wx.setCell ⟨b, j, none⟩ v).heap[D]? = some (.deferred (some [])) := by
  obtain ⟨h1, h2, h3, h4, h5⟩ := h
  refine ⟨ownsRow_setCell_other h3 ?_ _, h4.setCell (p := ⟨b, j, none⟩) n4 _, (Below.heap_setCell _ _ _ _ (fun e => ?_)).trans h5⟩
  · intro e
    obtain ⟨c, fr, hc⟩ := ownRow_cells h3 _ e
    unfold Blk at hb; rw [hb] at hc; simp at hc; exact hT hc.2.1
  · subst e; unfold Blk at hb; rw [hb] at h5; cases h5
theorem RF.setR {wK : World} {rB eB D : Nat} {sl : Value} {k : Nat} {ys xs es : List Value} {wx : World} (h : RF wK rB eB D sl k ys xs es wx) (hn : eB ≠ rB) (n4 : wK.heap.size ≤ rB) (j : Nat) (v : Value) :
    RF wK rB eB D sl k ys (xs.set j v) es (wx.setCell ⟨rB, j, none⟩ v) := by
  have g := h.setAny h.1 (by decide) n4 j v
  exact ⟨h.1.set j v, h.2.1.other hn v, g.1, g.2.1, g.2.2⟩
theorem RF.setE {wK : World} {rB eB D : Nat} {sl : Value} {k : Nat} {ys xs es : List Value} {wx : World} (h : RF wK rB eB D sl k ys xs es wx) (hn : rB ≠ eB) (n4 : wK.heap.size ≤ eB) (v : Value) :
    RF wK rB eB D sl k ys xs (es.set 0 v) (wx.setCell ⟨eB, 0, none⟩ v) := by
  have g := h.setAny h.2.1 (by decide) n4 0 v
  exact ⟨h.1.other hn v, h.2.1.set 0 v, g.1, g.2.1, g.2.2⟩
/-- the places once more, when the rounds' deferred calls have been taken -/
theorem RF.own {wK : World} {rB eB D : Nat} {sl : Value} {k : Nat} {ys xs es : List Value} {wx : World} (h : RF wK rB eB D sl k ys xs es wx) (hD : wK.heap.size ≤ D) :
    Blk (wx.putObj D (.deferred none)) rB 71 xs ∧ Blk (wx.putObj D (.deferred none)) eB 147 es ∧ (wx.putObj D (.deferred none)).ownsRow wK.heap.size 78 2 sl k ys ∧ Below wK.heap.size wK (wx.putObj D (.deferred none)) := by
  obtain ⟨h1, h2, h3, h4, h5⟩ := h
  have hgr := grownBy_putObj' wx D (.deferred none)
  have hno : ∀ r, some D = some r → ∃ o : Obj, wx.heap[r]? = some o ∧ o.isCells = false := fun r e => by cases e; exact ⟨_, h5, rfl⟩
  exact ⟨h1.own hgr hno, h2.own hgr hno, ownsRow_own h3 hgr hno, h4.grown hgr h4.size (fun k e => by cases e; exact hD)⟩
theorem ownsRow_base {w : World} {base base' : Nat} {e : TypeId} {size : Nat} {v : Value} {k : Nat} {xs : List Value} (h : w.ownsRow base e size v k xs) (hb : base' ≤ base) : w.ownsRow base' e size v k xs := by
  obtain ⟨h1, h2⟩ := h
  refine ⟨h1, ?_⟩
  rcases h2 with h2 | ⟨g, cap, cur, hv, hg, r⟩
  · exact .inl h2
  · exact .inr ⟨g, cap, cur, hv, Nat.le_trans hb hg, r⟩
theorem may_open (w : World) (r : Rt) (kind : Int) (user b : Bool) (hb : may r kind user = b) :
    Calls Tryz.prog 124 #[.agg #[.bool r.w, .bool r.u, .bool r.x], .int .i64 kind, .bool user] w fun e w' => e = .returned (.bool b) ∧ Below w.heap.size w w' := hb ▸ may_any w r kind user
theorem FI.past {w : World} {pB rB eB : Nat} {pre : List St} {W W' : World} (h : FI w pB rB eB pre W) (hb : Below W.heap.size W W') : FI w pB rB eB pre W' := by
  obtain ⟨⟨h1, ⟨sl, h2, h3⟩, h4, h5⟩, h6⟩ := h
  exact ⟨⟨h1, ⟨sl, h2.past hb, h3.kept (grownBy_of_below hb) (by cases hv : sl.ownBlock <;> simp)⟩, h4.past hb, h5.past hb⟩, h6.trans (hb.mono h6.size)⟩
theorem FI.own {w : World} {pB rB eB : Nat} {B : Nat} (hB : w.heap.size ≤ B) : OwnFrom B (FI w pB rB eB) := by
  intro s A C row hs hg hr
  obtain ⟨⟨h1, ⟨sl, h2, h3⟩, h4, h5⟩, h6⟩ := hs
  have hr' := fun r e => (hr r e).2
  exact ⟨⟨h1, ⟨sl, h2.own hg hr', ownsRow_own h3 hg hr'⟩, h4.own hg hr', h5.own hg hr'⟩, h6.grown hg h6.size (fun k e => Nat.le_trans hB (hr k e).1)⟩
theorem FX.own {w : World} {rB eB : Nat} {c : Code} {B : Nat} (hB : w.heap.size ≤ B) : OwnFrom B (FX w rB eB c) := by
  intro s A C row hs hg hr
  obtain ⟨⟨h1, ⟨q, s, h, cd, h2, h3, h4⟩, h5⟩, h6⟩ := hs
  have hr' := fun r e => (hr r e).2
  exact ⟨⟨h1, ⟨q, s, h, cd, h2, h3, h4.own hg hr'⟩, h5.own hg hr'⟩, h6.grown hg h6.size (fun k e => Nat.le_trans hB (hr k e).1)⟩
theorem KeepsFrom.of_below {B : Nat} {W W' : World} (h : Below W.heap.size W W') : KeepsFrom B W W' := ⟨h.size, fun k _ _ hk _ => (h.block k (lt_of_block hk)).trans hk⟩
theorem Blk.grownRow {W W' : World} {b : Nat} {T : TypeId} {xs : List Value} (h : Blk W b T xs) {base : Nat} {e : TypeId} {size k : Nat} {v : Value} {ys : List Value} (ho : W.ownsRow base e size v k ys) (hT : T ≠ e)
    (hg : W.grownBy W' v.ownBlock) : Blk W' b T xs :=
  h.of_heap (hg.block b h.lt (fun e' => by
    rcases ho.2 with ⟨e1, _⟩ | ⟨g', cap, cur, e1, _, h3, _⟩
    · subst e1; simp [Value.ownBlock] at e'
    · subst e1; simp [Value.ownBlock] at e'; subst e'; unfold Blk at h; rw [h] at h3; simp at h3; exact hT h3.2))
/-- in a round, behind the append -/
def RR (w W : World) (S : Nat → Prop) (L pB rB eB Bx : Nat) (s : St) (sl : Value) (k : Nat) (ys : List Value) (xs : List Value) (wx : World) : Prop :=
  Blk wx pB 71 xs ∧ Blk wx Bx 228 s.val.toList ∧ wx.ownsRow w.heap.size 78 2 sl k ys ∧ Blk wx rB 71 (pathCells (.slice none 0 0) Path.none) ∧ Blk wx eB 147 [.nilIface] ∧
    KeepT 78 S W wx ∧ KeepsFrom L W wx ∧ Below w.heap.size w wx
theorem RR.past {w W : World} {S : Nat → Prop} {L pB rB eB Bx : Nat} {s : St} {sl : Value} {k : Nat} {ys xs : List Value} {wx wy : World} (h : RR w W S L pB rB eB Bx s sl k ys xs wx) (hb : Below wx.heap.size wx wy) : RR w W S L pB rB eB Bx s sl k ys xs wy := by
  obtain ⟨h1, h2, h3, h4, h5, h6, h7, h8⟩ := h
  exact ⟨h1.past hb, h2.past hb, h3.kept (grownBy_of_below hb) (by cases hv : sl.ownBlock <;> simp), h4.past hb, h5.past hb, h6.trans (KeepT.of_below hb), h7.trans (KeepsFrom.of_below hb), h8.trans (hb.mono h8.size)⟩
theorem KeepsFrom.setCell (B : Nat) (W : World) (p : Addr) (v : Value) : KeepsFrom B W (W.setCell p v) := (KeepsOthers.setCell W p v).from B
theorem RR.set {w W : World} {S : Nat → Prop} {L pB rB eB Bx : Nat} {s : St} {sl : Value} {k : Nat} {ys xs : List Value} {wx : World} (h : RR w W S L pB rB eB Bx s sl k ys xs wx) (hS : S pB) (n1 : Bx ≠ pB) (n2 : rB ≠ pB) (n3 : eB ≠ pB) (n4 : w.heap.size ≤ pB) (j : Nat) (v : Value) :
    RR w W S L pB rB eB Bx s sl k ys (xs.set j v) (wx.setCell ⟨pB, j, none⟩ v) := by
  obtain ⟨h1, h2, h3, h4, h5, h6, h7, h8⟩ := h
  refine ⟨h1.set j v, h2.other n1 v, ownsRow_setCell_other h3 ?_ v, h4.other n2 v, h5.other n3 v, h6.setCell (p := ⟨pB, j, none⟩) hS v, h7.trans (KeepsFrom.setCell _ _ _ _), h8.setCell (p := ⟨pB, j, none⟩) n4 v⟩
  intro e
  rcases h3.2 with ⟨e1, _⟩ | ⟨g', cap, cur, e1, _, hh, _⟩
  · subst e1; simp [Value.ownBlock] at e
  · subst e1; simp [Value.ownBlock] at e; subst e; unfold Blk at h1; rw [h1] at hh; simp at hh

theorem KeepsFrom.grownRow {B : Nat} {W W' : World} {base : Nat} {e : TypeId} {size k : Nat} {v : Value} {ys : List Value} (h : W.ownsRow base e size v k ys) (hg : W.grownBy W' v.ownBlock) : KeepsFrom B W W' :=
  ⟨hg.size, fun k o _ hk ho => (hg.block k (lt_of_block hk) (fun e' => by
    obtain ⟨c, fr, h1⟩ := ownRow_cells h k e'.symm
    rw [hk] at h1; cases h1; cases ho)).trans hk⟩
theorem RR.start {w W : World} {S : Nat → Prop} {L pB rB eB Bx : Nat} {s : St} {sl : Value} {n : Nat} {ys xs : List Value} (hp : Blk W pB 71 xs) (hx : Blk W Bx 228 s.val.toList)
    (hrow : W.ownsRow w.heap.size 78 2 sl n ys) (hrb : Blk W rB 71 (pathCells (.slice none 0 0) Path.none)) (heb : Blk W eB 147 [.nilIface]) (hbw : Below w.heap.size w W) (o : Obj)
    {v' : Value} {w2 : World} {n' : Nat} {ys' : List Value} (hown' : w2.ownsRow w.heap.size 78 2 v' n' ys') (hgrow : (W.alloc o).grownBy w2 sl.ownBlock) : RR w W S L pB rB eB Bx s v' n' ys' xs w2 := by
  have ha := hrow.alloc o
  refine ⟨(hp.alloc o).grownRow ha (by decide) hgrow, (hx.alloc o).grownRow ha (by decide) hgrow, hown', (hrb.alloc o).grownRow ha (by decide) hgrow, (heb.alloc o).grownRow ha (by decide) hgrow, ?_, ?_, ?_⟩
  · exact ((KeepT.refl _ _ _).alloc o).grown hgrow (fun k e => .inl (ownRow_cells ha k e))
  · exact (KeepsFrom.of_below ((Below.refl W.heap.size W).alloc (Nat.le_refl _) o)).trans (KeepsFrom.grownRow ha hgrow)
  · exact (hbw.alloc hbw.size o).grown hgrow (by simp; have := hbw.size; omega) (fun k e => (ha.lt k e).1)

set_option maxRecDepth 100000 in
set_option maxHeartbeats 4000000 in
theorem find_in (n : Nat) (hn : 9 ≤ n) (w : World) (p gp hb mp fp fb : Nat) (hosts mem : List Nat) (cap nf : Nat) (root page kind : Int) (user : Bool) (H : Host w fp fb nf mem) (G : Guest w p gp hb mp fp hosts cap nf) :
    CallsIn Fence.wide n Tryz.prog 72 #[.pointer (some ⟨p, 0, none⟩), .int .i64 root, .int .i64 page, .int .i64 kind, .bool user] w
      (FindPost w (wk (rd hosts mem) hosts.length root page kind user)) := by
  refine callsIn_of_wp_marks Tryz.func72 rfl trivial ?_ rfl
  simp only [Tryz.ntmps72, List.size_toArray, List.length_cons, List.length_nil, Nat.reduceAdd, Nat.reduceSub, Array.replicate_succ, Array.replicate_zero, List.push_toArray, List.append_toArray, List.nil_append, List.cons_append]
  gi_wp2_with fail
  (with_reducible refine wide3 ?_); go_at_call 59
  refine (all_any _).mono ?_
  rintro e W1 ⟨rfl, hb1⟩
  gi_wp2_with fail
  (with_reducible refine wide3 ?_); go_at_call 123
  refine (steps_blk _ _ _ _ _ _).mono ?_
  rintro e WL ⟨⟨rb, pb, mb, cb, rfl, hrb, hpb, hmb, hcb, l1, l2, l3, l4⟩, hb2⟩
  gi_wp2_with fail
  have g0 := hb1.size
  simp at g0
  have g1 := hb2.size
  simp at g1
  -- the blocks behind the first two calls
  obtain ⟨wK, hwK⟩ : ∃ wK, (w.alloc (.cells #[.int .i64 kind] 3)).alloc (.cells #[.bool user] 4) = wK := ⟨_, rfl⟩
  have hK0 : wK.heap.size = w.heap.size + 1 + 1 := by rw [← hwK]; simp
  have hK1 : wK.heap.size ≤ w.heap.size + 1 + 1 := by omega
  have hK2 : w.heap.size + 1 + 1 ≤ wK.heap.size := by omega
  have q1 := Blk.new w 3 [.int .i64 kind]
  have q2 := Blk.new (w.alloc (.cells #[.int .i64 kind] 3)) 4 [.bool user]
  have q3 := Blk.new ((w.alloc (.cells #[.int .i64 kind] 3)).alloc (.cells #[.bool user] 4)) 71 (pathCells (.slice none 0 0) Path.none)
  have q4 := Blk.new (((w.alloc (.cells #[.int .i64 kind] 3)).alloc (.cells #[.bool user] 4)).alloc (.cells (pathCells (.slice none 0 0) Path.none).toArray 71)) 147 [.nilIface]
  simp only [World.size_alloc] at q2 q3 q4
  have kb1 : Blk W1 w.heap.size 3 [.int .i64 kind] := (((q1.alloc _).alloc _).alloc _).past hb1
  have ub1 : Blk W1 (w.heap.size + 1) 4 [.bool user] := ((q2.alloc _).alloc _).past hb1
  have rb1 : Blk W1 (w.heap.size + 1 + 1) 71 (pathCells (.slice none 0 0) Path.none) := (q3.alloc _).past hb1
  have eb1 : Blk W1 (w.heap.size + 1 + 1 + 1) 147 [.nilIface] := q4.past hb1
  have B1 : Below wK.heap.size wK W1 := by
    refine (((Below.refl _ wK).alloc (Nat.le_refl _) (.cells (pathCells (.slice none 0 0) Path.none).toArray 71)).alloc (by simp) (.cells #[.nilIface] 147)).trans ?_
    rw [← hwK]
    exact hb1.mono (by simp)
  have BK : Below w.heap.size w wK := by rw [← hwK]; exact ((Below.refl _ w).alloc (Nat.le_refl _) _).alloc (by simp) _
  have kbK : Blk wK w.heap.size 3 [.int .i64 kind] := by rw [← hwK]; exact q1.alloc _
  have ubK : Blk wK (w.heap.size + 1) 4 [.bool user] := by rw [← hwK]; exact q2
  have pb1 : Blk WL W1.heap.size 71 (pathCells (.slice none 0 0) Path.start) := (Blk.new W1 71 (pathCells (.slice none 0 0) Path.start)).past hb2
  have kbL : Blk WL w.heap.size 3 [.int .i64 kind] := (kb1.alloc _).past hb2
  have ubL : Blk WL (w.heap.size + 1) 4 [.bool user] := (ub1.alloc _).past hb2
  have rbL : Blk WL (w.heap.size + 1 + 1) 71 (pathCells (.slice none 0 0) Path.none) := (rb1.alloc _).past hb2
  have ebL : Blk WL (w.heap.size + 1 + 1 + 1) 147 [.nilIface] := (eb1.alloc _).past hb2
  have BL : Below wK.heap.size wK WL := (B1.alloc (by omega) _).trans (hb2.mono (by simp; omega))
  have HL := H.past (BK.trans (BL.mono (by omega)))
  have GL := G.past (BK.trans (BL.mono (by omega)))
  clear q1 q2 q3 q4 kb1 ub1 rb1 eb1 hb1 B1 hwK hK0
  obtain ⟨S, hSd⟩ : ∃ S : Nat → Prop, S = fun k => k = w.heap.size + 1 + 1 ∨ k = w.heap.size + 1 + 1 + 1 ∨ k = W1.heap.size := ⟨_, rfl⟩
  have hSB : ∀ k, S k → k < WL.heap.size := by intro k hk; rw [hSd] at hk; have := pb1.lt; omega
  have hS0 : ∀ k, S k ↔ (k = w.heap.size + 1 + 1 ∨ k = w.heap.size + 1 + 1 + 1 ∨ k = W1.heap.size) := by intro k; rw [hSd]
  clear hSd
  have lH1 := H.hdr.lt
  have lH2 := H.row.lt
  have lG1 := G.hdr.lt
  have lG2 := G.gm.lt
  obtain ⟨sp, hsp⟩ := G.row
  have lG3 := hsp.lt
  have stops := steps_stops (n - 1) (by omega) S WL rb pb mb cb w.heap.size (w.heap.size + 1) p gp hb mp fp fb hosts mem cap nf root page kind user ⟨hrb, hpb, hmb, hcb, kbL, ubL⟩ HL GL
    ⟨by rw [hS0]; simp at l1; omega, by rw [hS0]; simp at l2; omega, by rw [hS0]; simp at l3; omega, by rw [hS0]; simp at l4; omega, by rw [hS0]; omega, by rw [hS0]; omega⟩
    ⟨by rw [hS0]; omega, by rw [hS0]; omega, by rw [hS0]; omega, by rw [hS0]; omega, by rw [hS0]; omega⟩ (fun k hk h => by have := hSB k h; omega)
  have HB := Lib.hid hSB
  have HS0 := Lib.hid hS0
  clear hSB hS0 lH1 lH2 lG1 lG2 hsp lG3
  refine wpIn_rangeFunc_ownH (F := Fence.wide) rfl (by omega) (gf := 180) (lb := #[.pointer (some ⟨rb, 0, none⟩), .pointer (some ⟨pb, 0, none⟩), .pointer (some ⟨mb, 0, none⟩), .pointer (some ⟨cb, 0, none⟩)]) rfl trivial (enters_of Tryz.func180 (by kernel_rfl) rfl)
    stops KeepT.trans (fun W l o o' _ h ho _ => KeepT.putObj W l o o' h ho) (Below.refl _ _) (fun _ => rfl)
    (FI wK W1.heap.size (w.heap.size + 1 + 1) (w.heap.size + 1 + 1 + 1)) (FX wK (w.heap.size + 1 + 1) (w.heap.size + 1 + 1 + 1)) ?hI ?hIx ?h0
    (fun x a' W => ∃ Bx, (Bx ≠ W1.heap.size ∧ Bx ≠ w.heap.size + 1 + 1 ∧ Bx ≠ w.heap.size + 1 + 1 + 1) ∧ Blk W Bx 228 x.val.toList ∧ a' = { tmps := #[.pointer (some ⟨p, 0, none⟩), .int .i64 root, .int .i64 page, .int .i64 kind, .bool user, undef, undef, undef, .pointer (some ⟨w.heap.size, 0, none⟩), .pointer (some ⟨w.heap.size + 1, 0, none⟩), .pointer (some ⟨w.heap.size + 1 + 1, 0, none⟩), .pointer (some ⟨w.heap.size + 1 + 1 + 1, 0, none⟩), .func (.func 121) #[] #[.pointer (some ⟨w.heap.size, 0, none⟩), .pointer (some ⟨w.heap.size + 1, 0, none⟩)], .pointer (some ⟨W1.heap.size, 0, none⟩), .pointer (some ⟨Bx, 0, none⟩), .func (.func 121) #[] #[.pointer (some ⟨w.heap.size, 0, none⟩), .pointer (some ⟨w.heap.size + 1, 0, none⟩)], .agg #[.bool true, .bool true, .bool true], .agg #[.slice none 0 0, .int .i64 0, .bool true, .bool true, .bool true, .bool false, .bool false], .pointer (some ⟨p, 0, none⟩), .int .i64 root, .int .i64 page, .func (.func 121) #[] #[.pointer (some ⟨w.heap.size, 0, none⟩), .pointer (some ⟨w.heap.size + 1, 0, none⟩)], .func (.func 180) #[] #[.pointer (some ⟨rb, 0, none⟩), .pointer (some ⟨pb, 0, none⟩), .pointer (some ⟨mb, 0, none⟩), .pointer (some ⟨cb, 0, none⟩)], .agg x.val, undef, undef, undef, undef, undef, undef, undef, undef, undef, undef, undef, undef, undef, undef, undef, undef, undef, undef, undef, undef, undef, undef, undef, undef, undef, undef, undef, undef, undef, undef, undef, undef, undef, undef, undef, undef, undef, undef, undef, undef, undef, undef, undef, undef, undef, undef, undef, undef, undef, undef, undef, undef, undef, undef, undef, undef, undef, undef, undef, undef, undef], defers := [] }) ?hAx ?assign ?body ?done ?stop
  case hI => exact FI.own BL.size
  case hIx => exact fun c => FX.own BL.size
  case h0 => exact ⟨⟨fun s hs => by simp at hs, ⟨_, pb1, World.ownsRow_nil _ _ _ _⟩, rbL, ebL⟩, BL⟩
  case hAx =>
    rintro x a' s A C row ⟨Bx, h1, h2, h3⟩ hg hr
    exact ⟨Bx, h1, h2.own hg (fun r e => (hr r e).2), h3⟩
  case assign =>
    rintro l pre x W K hi hK
    have n1 := (hi.1.2.1.choose_spec).1.lt
    have n2 := hi.1.2.2.1.lt
    have n3 := hi.1.2.2.2.lt
    have hiA := fun (_o : Obj) => hi.past ((Below.refl W.heap.size W).alloc (Nat.le_refl _) _o)
    clear hi stops kbL ubL rbL ebL pb1 HL GL
    obtain ⟨e, lv, g, i, er⟩ := x
    cases er with
    | none =>
      simp only [St.enc, St.val, errv]
      gi_wp2
      exact hK _ _ (KeepsFrom.of_below ((Below.refl W.heap.size W).alloc (Nat.le_refl _) _)) ((KeepT.refl _ _ _).alloc _) (hiA _) ⟨W.heap.size, ⟨by omega, by omega, by omega⟩, Blk.new _ _ [_, _, _, _, _, _, _, _, _, _, _, _, _], rfl⟩
    | some hc =>
      obtain ⟨h, c⟩ := hc
      simp only [St.enc, St.val, errv]
      gi_wp2
      exact hK _ _ (KeepsFrom.of_below ((Below.refl W.heap.size W).alloc (Nat.le_refl _) _)) ((KeepT.refl _ _ _).alloc _) (hiA _) ⟨W.heap.size, ⟨by omega, by omega, by omega⟩, Blk.new _ _ [_, _, _, _, _, _, _, _, _, _, _, _, _], rfl⟩
  case body =>
    rintro l pre x a' W hl ⟨r, hr⟩ hi ⟨Bx, ⟨m1, m2, m3⟩, hx, rfl⟩ hlt
    clear hr r hl stops kbL ubL rbL ebL pb1 HL GL
    obtain ⟨e, lv, g, i, er⟩ := x
    cases er with
    | some hc =>
      obtain ⟨h, cd⟩ := hc
      obtain ⟨⟨hne, ⟨sl, hp, hrow⟩, hrb', heb'⟩, hbw⟩ := hi
      simp only [St.val, errv]
      have x12 := hx.cell (k := 12) rfl
      simp only [errv] at x12
      have z0 := hrb'.cell (k := 0) (v := .slice none 0 0) rfl
      have z1 := hrb'.cell (k := 1) (v := .int .i64 0) rfl
      have z2 := hrb'.cell (k := 2) (v := .bool false) rfl
      have z3 := hrb'.cell (k := 3) (v := .bool false) rfl
      have z4 := hrb'.cell (k := 4) (v := .bool false) rfl
      have z5 := hrb'.cell (k := 5) (v := .bool false) rfl
      have z6 := hrb'.cell (k := 6) (v := .bool false) rfl
      have zf := fun k => hrb'.free k
      have y0 := heb'.cell (k := 0) rfl
      have yf := fun k => heb'.free k
      have zl := hrb'.lt
      have yl := heb'.lt
      have xl := hx.lt
      have m4 : w.heap.size + 1 + 1 + 1 ≠ w.heap.size + 1 + 1 := by omega
      have m5 : w.heap.size + 1 + 1 ≠ w.heap.size + 1 + 1 + 1 := by omega
      clear hp hrow hb2 g0 g1 BL BK kbK ubK l1 l2 l3 l4 hrb hmb hcb HB HS0
      gi_wp2_with fail
      have RB := (((Blk.set (Blk.set (Blk.set (Blk.set (Blk.set (Blk.set (Blk.set hrb' 0 (.slice none 0 0)) 1 (.int .i64 0)) 2 (.bool false)) 3 (.bool false)) 4 (.bool false)) 5 (.bool false)) 6 (.bool false))).other (a := ⟨w.heap.size + 1 + 1 + 1, 0, none⟩) m5 (.iface 151 (.agg #[.int .i64 h, .int .i64 cd]))).drew
      have EB := (((Blk.other (Blk.other (Blk.other (Blk.other (Blk.other (Blk.other (Blk.other heb' (a := ⟨w.heap.size + 1 + 1, 0, none⟩) m4 (.slice none 0 0)) (a := ⟨w.heap.size + 1 + 1, 1, none⟩) m4 (.int .i64 0)) (a := ⟨w.heap.size + 1 + 1, 2, none⟩) m4 (.bool false)) (a := ⟨w.heap.size + 1 + 1, 3, none⟩) m4 (.bool false)) (a := ⟨w.heap.size + 1 + 1, 4, none⟩) m4 (.bool false)) (a := ⟨w.heap.size + 1 + 1, 5, none⟩) m4 (.bool false)) (a := ⟨w.heap.size + 1 + 1, 6, none⟩) m4 (.bool false))).set 0 (.iface 151 (.agg #[.int .i64 h, .int .i64 cd]))).drew
      have BB := (((Below.setCell (Below.setCell (Below.setCell (Below.setCell (Below.setCell (Below.setCell (Below.setCell hbw (p := ⟨w.heap.size + 1 + 1, 0, none⟩) hK1 (.slice none 0 0)) (p := ⟨w.heap.size + 1 + 1, 1, none⟩) hK1 (.int .i64 0)) (p := ⟨w.heap.size + 1 + 1, 2, none⟩) hK1 (.bool false)) (p := ⟨w.heap.size + 1 + 1, 3, none⟩) hK1 (.bool false)) (p := ⟨w.heap.size + 1 + 1, 4, none⟩) hK1 (.bool false)) (p := ⟨w.heap.size + 1 + 1, 5, none⟩) hK1 (.bool false)) (p := ⟨w.heap.size + 1 + 1, 6, none⟩) hK1 (.bool false))).setCell (p := ⟨w.heap.size + 1 + 1 + 1, 0, none⟩) (Nat.le_trans hK1 (Nat.le_succ _)) (.iface 151 (.agg #[.int .i64 h, .int .i64 cd]))).drew
      have KK := (((((((((KeepsFrom.refl WL.heap.size W).trans (KeepsFrom.setCell _ _ ⟨w.heap.size + 1 + 1, 0, none⟩ (.slice none 0 0))).trans (KeepsFrom.setCell _ _ ⟨w.heap.size + 1 + 1, 1, none⟩ (.int .i64 0))).trans (KeepsFrom.setCell _ _ ⟨w.heap.size + 1 + 1, 2, none⟩ (.bool false))).trans (KeepsFrom.setCell _ _ ⟨w.heap.size + 1 + 1, 3, none⟩ (.bool false))).trans (KeepsFrom.setCell _ _ ⟨w.heap.size + 1 + 1, 4, none⟩ (.bool false))).trans (KeepsFrom.setCell _ _ ⟨w.heap.size + 1 + 1, 5, none⟩ (.bool false))).trans (KeepsFrom.setCell _ _ ⟨w.heap.size + 1 + 1, 6, none⟩ (.bool false))).trans (KeepsFrom.setCell _ _ ⟨w.heap.size + 1 + 1 + 1, 0, none⟩ (.iface 151 (.agg #[.int .i64 h, .int .i64 cd])))).trans (KeepsFrom.of_below (Below.refl _ _).drew)
      have HRB := Lib.hid RB
      have HEB := Lib.hid EB
      have HBB := Lib.hid BB
      have HKK := Lib.hid KK
      clear RB EB BB KK
      gi_region
      all_goals gi_wp2
      all_goals exact ⟨HKK.out, ⟨rfl, ⟨pre, _, h, cd, rfl, rfl, HEB.out⟩, HRB.out⟩, HBB.out⟩
    | none =>
      obtain ⟨⟨hne, ⟨sl, hp, hrow⟩, hrb', heb'⟩, hbw⟩ := hi
      simp only [St.val, errv]
      have x12 := hx.cell (k := 12) rfl
      have x10 := hx.cell (k := 10) rfl
      have x11 := hx.cell (k := 11) rfl
      simp only [errv] at x12
      have p0 := hp.cell (k := 0) rfl
      have pf := fun k => hp.free k
      have pl := hp.lt
      have xl := hx.lt
      obtain ⟨i0, hi, hz0, hz1, hz2⟩ := info_parts info_at
      have HI := Lib.hid hi
      have HZ := Lib.hid hz0
      have HZ1 := Lib.hid hz1
      have HZ2 := Lib.hid hz2
      have hbs := hbw.size
      clear hi hz0 hz1 hz2
      gi_wp2_with (gi_at_builtin; refine wpListIn_append_own _ rfl _ _ 69 rfl wK.heap.size 78 i0 _ 2 16 Tryz.underlying69 HI.out HZ.out HZ1.out HZ2.out rfl (by decide) _ _ _ rfl (hrow.alloc _) ⟨W.heap.size, 0, none⟩ 1 1 [.int .i64 g, .int .i64 i] rfl rfl (World.news_of_block (cs := #[.int .i64 g, .int .i64 i]) (t := 78) (fr := (0, 0)) (heap_alloc_new W _)) (by simp [Value.oneCell']) (by unfold maxLen; omega) (by omega) (by simp; omega) ?_; intro v' w2 hown' hgrow _; obtain ⟨g', cap', rfl⟩ := ownsRow_succ hown'; have P2 := (hp.alloc (.cells #[.int .i64 g, .int .i64 i] 78)).grownRow (hrow.alloc _) (by decide) hgrow; have p20 := P2.cell (k := 0) rfl; have p2f := fun k => P2.free k; have p2l := P2.lt)
      obtain ⟨s, hs⟩ : ∃ s : St, St.mk e lv g i none = s := ⟨_, rfl⟩
      have hx' : Blk W Bx 228 s.val.toList := by rw [← hs]; exact hx
      have hSp : S W1.heap.size := (HS0.out _).2 (.inr (.inr rfl))
      have hpr : wK.heap.size ≤ W1.heap.size := by omega
      have R2 : RR wK W S WL.heap.size W1.heap.size (w.heap.size + 1 + 1) (w.heap.size + 1 + 1 + 1) Bx s _ _ _ _ w2 := RR.start hp hx' hrow hrb' heb' hbw _ hown' hgrow
      have R3 := R2.set hSp m1 (by omega) (by omega) hpr 0 (.slice (some ⟨g', 0, none⟩) (pre.length + 1) cap')
      obtain ⟨w3, hw3⟩ : ∃ w3, w2.setCell ⟨W1.heap.size, 0, none⟩ (.slice (some ⟨g', 0, none⟩) (pre.length + 1) cap') = w3 := ⟨_, rfl⟩
      rw [hw3] at R3
      rw [hw3, hs]
      have HS := Lib.hid hs
      clear hw3 R2 P2 p20 p2f p2l hown' hgrow w2 hs hx hx' hp hrow hrb' heb' p0 pf pl xl x12 x10 x11 HI HZ HZ1 HZ2
      obtain ⟨fp0, hfp0⟩ : ∃ q, foldP pre = q := ⟨_, rfl⟩
      rw [hfp0] at R3
      have HF := Lib.hid hfp0
      clear hfp0
      gi_cut [] from 37 (fun wx => RR wK W S WL.heap.size W1.heap.size (w.heap.size + 1 + 1) (w.heap.size + 1 + 1 + 1) Bx s (.slice (some ⟨g', 0, none⟩) (pre.length + 1) cap') (pre.length + 1) (atCells fp0.ats ++ [.int .i64 g, .int .i64 i]) [.slice (some ⟨g', 0, none⟩) (pre.length + 1) cap', .int .i64 fp0.g, .bool (fp0.r.w && e.w), .bool (fp0.r.u && e.u), .bool (fp0.r.x && !e.nx), .bool fp0.large, .bool fp0.dirty] wx)
      case first =>
        have hpb := R3.1
        have hxb : Blk w3 Bx 228 [.bool e.p, .bool e.w, .bool e.u, .bool e.a, .bool e.d, .bool e.ps, .bool e.nx, .bool e.bad, .int .i64 (e.f : Int), .int .i64 (lv : Int), .int .i64 g, .int .i64 i, .nilIface] := by have := R3.2.1; rw [← HS.out] at this; exact this
        have b2 := hpb.cell (k := 2) rfl
        have b3 := hpb.cell (k := 3) rfl
        have b4 := hpb.cell (k := 4) rfl
        have bl := hpb.lt
        have x0 := hxb.cell (k := 0) rfl
        have x1 := hxb.cell (k := 1) rfl
        have x2 := hxb.cell (k := 2) rfl
        have x3 := hxb.cell (k := 3) rfl
        have x4 := hxb.cell (k := 4) rfl
        have x5 := hxb.cell (k := 5) rfl
        have x6 := hxb.cell (k := 6) rfl
        have x7 := hxb.cell (k := 7) rfl
        have x8 := hxb.cell (k := 8) rfl
        gi_region_with (first | ((with_reducible refine wide3r l ?_); go_at_call 64; refine (of_open _ e).mono ?_; rintro r w4 ⟨rfl, hb4⟩; have P4 : Blk w4 W1.heap.size 71 _ := (by first | exact hpb.past hb4 | exact hpb.drew.past hb4); have d2 := P4.cell (k := 2) rfl; have d3 := P4.cell (k := 3) rfl; have d4 := P4.cell (k := 4) rfl; have dl := P4.lt) | ((with_reducible refine wide3r l ?_); go_at_call 63; refine (meet2_any _ w4.heap.size 2 fp0.r ⟨e.w, e.u, !e.nx⟩ (by first | exact Blk.new _ _ [_, _, _, _, _, _] | exact (Blk.new _ _ [_, _, _, _, _, _]).drew)).mono ?_; rintro r w5 ⟨rfl, hb5⟩; have P5 : Blk w5 W1.heap.size 71 _ := (by first | exact (P4.alloc _).past hb5 | exact (P4.alloc _).drew.past hb5); have e2 := P5.cell (k := 2) rfl; have e3 := P5.cell (k := 3) rfl; have e4 := P5.cell (k := 4) rfl; have el := P5.lt; have ef := fun k => P5.free k))
        all_goals gi_wp2_with fail
        all_goals gi_meet
        all_goals
          have R4 := R3.past (wy := w4) (by first | exact hb4 | exact (Below.refl _ w3).drew.trans hb4)
          have R5 := R4.past (wy := w5) (by first | exact ((Below.refl _ w4).alloc (Nat.le_refl _) _).trans (hb5.mono (by simp)) | exact (((Below.refl _ w4).alloc (Nat.le_refl _) _).drew).trans (hb5.mono (by simp)))
          exact ((R5.set hSp m1 (by omega) (by omega) hpr 2 _).set hSp m1 (by omega) (by omega) hpr 3 _).set hSp m1 (by omega) (by omega) hpr 4 _
      case rest =>
        clear R3 w3
        have hpb := hcut.1
        have hxb : Blk wc Bx 228 [.bool e.p, .bool e.w, .bool e.u, .bool e.a, .bool e.d, .bool e.ps, .bool e.nx, .bool e.bad, .int .i64 (e.f : Int), .int .i64 (lv : Int), .int .i64 g, .int .i64 i, .nilIface] := by have := hcut.2.1; rw [← HS.out] at this; exact this
        have b1 := hpb.cell (k := 1) rfl
        have b5 := hpb.cell (k := 5) rfl
        have b6 := hpb.cell (k := 6) rfl
        have bf := fun k => hpb.free k
        have x4 := hxb.cell (k := 4) rfl
        have x5 := hxb.cell (k := 5) rfl
        have x8 := hxb.cell (k := 8) rfl
        have hend : ownPostG WL.heap.size (KeepT 78 S) (FI wK W1.heap.size (w.heap.size + 1 + 1) (w.heap.size + 1 + 1 + 1)) (FX wK (w.heap.size + 1 + 1) (w.heap.size + 1 + 1 + 1)) (pre ++ [s]) W Exit.normal { tmps := #[], defers := [] }
            (((wc.setCell ⟨W1.heap.size, 1, none⟩ (.int .i64 (e.f : Int))).setCell ⟨W1.heap.size, 5, none⟩ (.bool e.ps)).setCell ⟨W1.heap.size, 6, none⟩ (.bool e.d)).drew := by
          have R6 := ((hcut.set hSp m1 (by omega) (by omega) hpr 1 (.int .i64 (e.f : Int))).set hSp m1 (by omega) (by omega) hpr 5 (.bool e.ps)).set hSp m1 (by omega) (by omega) hpr 6 (.bool e.d)
          have R7 := R6.past ((Below.refl _ _).drew)
          obtain ⟨r1, r2, r3, r4, r5, r6, r7, r8⟩ := R7
          refine ⟨r7, r6, ⟨⟨?_, ⟨.slice (some ⟨g', 0, none⟩) (pre.length + 1) cap', ?_, ?_⟩, r4, r5⟩, r8⟩⟩
          · intro z hz
            rcases List.mem_append.1 hz with h | h
            · exact hne z h
            · simp at h; subst h; rw [← HS.out]
          · rw [foldP_snoc, HF.out, ← HS.out]; exact r1
          · rw [foldP_snoc, HF.out, ← HS.out]
            simp only [Path.step, atCells_snoc, List.length_append, List.length_cons, List.length_nil]
            exact r3
        gi_wp2_with fail
        obtain ⟨Q, hQ⟩ : ∃ Q, Exit.inBlock 1 (ownPostG WL.heap.size (KeepT 78 S) (FI wK W1.heap.size (w.heap.size + 1 + 1) (w.heap.size + 1 + 1 + 1)) (FX wK (w.heap.size + 1 + 1) (w.heap.size + 1 + 1 + 1)) (pre ++ [St.mk e lv g i none]) W) = Q := ⟨_, rfl⟩
        have hend' : ∀ a, Q Exit.normal a (((wc.setCell ⟨W1.heap.size, 1, none⟩ (.int .i64 (e.f : Int))).setCell ⟨W1.heap.size, 5, none⟩ (.bool e.ps)).setCell ⟨W1.heap.size, 6, none⟩ (.bool e.d)).drew := fun a => by rw [← hQ, HS.out]; exact hend
        rw [hQ]
        have HEND := Lib.hid hend'
        clear hend hend' hQ hpb hxb
        generalize (.func (.func 121) #[] #[.pointer (some ⟨w.heap.size, 0, none⟩), .pointer (some ⟨w.heap.size + 1, 0, none⟩)] : Value) = v0
        generalize (.func (.func 180) #[] #[.pointer (some ⟨rb, 0, none⟩), .pointer (some ⟨pb, 0, none⟩), .pointer (some ⟨mb, 0, none⟩), .pointer (some ⟨cb, 0, none⟩)] : Value) = v1
        generalize (.agg #[.bool e.p, .bool e.w, .bool e.u, .bool e.a, .bool e.d, .bool e.ps, .bool e.nx, .bool e.bad, .int .i64 (e.f : Int), .int .i64 (lv : Int), .int .i64 g, .int .i64 i, .nilIface] : Value) = v2
        generalize (.agg #[.bool true, .bool true, .bool true] : Value) = v3
        generalize (.agg #[.slice none 0 0, .int .i64 0, .bool true, .bool true, .bool true, .bool false, .bool false] : Value) = v4
        generalize (.agg #[.int .i64 g, .int .i64 i] : Value) = v5
        generalize (.slice (some ⟨W.heap.size, 0, none⟩) 1 1 : Value) = v6
        generalize (.slice (some ⟨g', 0, none⟩) (pre.length + 1) cap' : Value) = v7
        generalize (.pointer (some ⟨w.heap.size, 0, none⟩) : Value) = v8
        generalize (.pointer (some ⟨w.heap.size + 1, 0, none⟩) : Value) = v9
        generalize (.pointer (some ⟨w.heap.size + 1 + 1, 0, none⟩) : Value) = v10
        generalize (.pointer (some ⟨w.heap.size + 1 + 1 + 1, 0, none⟩) : Value) = v11
        generalize (.pointer (some ⟨p, 0, none⟩) : Value) = v12
        generalize (.int .i64 root : Value) = v13
        generalize (.int .i64 page : Value) = v14
        generalize (.int .i64 kind : Value) = v15
        generalize (.bool user : Value) = v16
        generalize (.pointer (some ⟨Bx, 12, none⟩) : Value) = v17
        generalize (.pointer (some ⟨Bx, 10, none⟩) : Value) = v18
        generalize W1.heap.size = PB at *
        clear hcut HF hne hbw m2 m3 hb2 g0 g1 hbs hpr hSp HS0 BL BK kbK ubK hK1 hK2 l1 l2 l3 l4 hrb hmb hcb hlt HB
        have m1' := Ne.symm m1
        refine wpIn_region_calm (fun w' => w'.cell? ⟨Bx, 8, none⟩ = some (.int .i64 (e.f : Int)) ∧ w'.cell? ⟨Bx, 5, none⟩ = some (.bool e.ps) ∧ w'.cell? ⟨Bx, 4, none⟩ = some (.bool e.d)) (n - 1 - 1) l (by kernel_rfl) (by kernel_rfl) (by go_keep) (fun hHeld => ?_)
        refine' wpAnyH_take (i := 0) (v := _) rfl (by kernel_rfl) (by kernel_rfl) (by kernel_rfl) (fun _ _ _ h => h) (Or.inl ⟨by with_unfolding_all rfl, ?_⟩) (by assumption) ?_
        rotate_left
        focus (intro w hSw; (try dsimp only at hSw); go_simp; try (with_reducible rfl))
        try simp only [List.getElem_toArray, List.getElem_cons_zero, Act.put, List.setIfInBounds_toArray, List.set_cons_zero, List.set_cons_succ]
        refine' wpAnyH_take (i := 1) (v := _) rfl (by kernel_rfl) (by kernel_rfl) (by kernel_rfl) (fun _ _ _ h => h) (Or.inl ⟨by with_unfolding_all rfl, ?_⟩) (by assumption) ?_
        rotate_left
        focus (intro w hSw; (try dsimp only at hSw); go_simp; try (with_reducible rfl))
        try simp only [List.getElem_toArray, List.getElem_cons_zero, List.getElem_cons_succ, Act.put, List.setIfInBounds_toArray, List.set_cons_zero, List.set_cons_succ]
        refine' wpAnyH_take (i := 2) (v := _) rfl (by kernel_rfl) (by kernel_rfl) (by kernel_rfl) (fun _ _ _ h => h) (Or.inl ⟨by with_unfolding_all rfl, ?_⟩) (by assumption) ?_
        rotate_left
        focus (intro w hSw; (try dsimp only at hSw); go_simp; try (with_reducible rfl))
        try simp only [List.getElem_toArray, List.getElem_cons_zero, List.getElem_cons_succ, Act.put, List.setIfInBounds_toArray, List.set_cons_zero, List.set_cons_succ]
        refine' wpAnyH_take (i := 3) (v := _) rfl (by kernel_rfl) (by kernel_rfl) (by kernel_rfl) (fun _ _ _ h => h) (Or.inl ⟨by with_unfolding_all rfl, ?_⟩) (by assumption) ?_
        rotate_left
        focus (intro w hSw; (try dsimp only at hSw); go_simp; try (with_reducible rfl))
        try simp only [List.getElem_toArray, List.getElem_cons_zero, List.getElem_cons_succ, Act.put, List.setIfInBounds_toArray, List.set_cons_zero, List.set_cons_succ]
        refine' wpAnyH_take (i := 4) (v := _) rfl (by kernel_rfl) (by kernel_rfl) (by kernel_rfl) (fun _ _ _ h => h) (Or.inl ⟨by with_unfolding_all rfl, ?_⟩) (by assumption) ?_
        rotate_left
        focus (intro w hSw; (try dsimp only at hSw); go_simp; try (with_reducible rfl))
        try simp only [List.getElem_toArray, List.getElem_cons_zero, List.getElem_cons_succ, Act.put, List.setIfInBounds_toArray, List.set_cons_zero, List.set_cons_succ]
        refine' wpAnyH_take (i := 5) (v := _) rfl (by kernel_rfl) (by kernel_rfl) (by kernel_rfl) (fun _ _ _ h => h) (Or.inl ⟨by with_unfolding_all rfl, ?_⟩) (by assumption) ?_
        rotate_left
        focus (intro w hSw; (try dsimp only at hSw); go_simp; try (with_reducible rfl))
        try simp only [List.getElem_toArray, List.getElem_cons_zero, List.getElem_cons_succ, Act.put, List.setIfInBounds_toArray, List.set_cons_zero, List.set_cons_succ]
        refine' wpAnyH_take (i := 6) (v := _) rfl (by kernel_rfl) (by kernel_rfl) (by kernel_rfl) (fun _ _ _ h => h) (Or.inl ⟨by with_unfolding_all rfl, ?_⟩) (by assumption) ?_
        rotate_left
        focus (intro w hSw; (try dsimp only at hSw); go_simp; try (with_reducible rfl))
        try simp only [List.getElem_toArray, List.getElem_cons_zero, List.getElem_cons_succ, Act.put, List.setIfInBounds_toArray, List.set_cons_zero, List.set_cons_succ]
        refine' wpAnyH_take (i := 7) (v := _) rfl (by kernel_rfl) (by kernel_rfl) (by kernel_rfl) (fun _ _ _ h => h) (Or.inl ⟨by with_unfolding_all rfl, ?_⟩) (by assumption) ?_
        rotate_left
        focus (intro w hSw; (try dsimp only at hSw); go_simp; try (with_reducible rfl))
        try simp only [List.getElem_toArray, List.getElem_cons_zero, List.getElem_cons_succ, Act.put, List.setIfInBounds_toArray, List.set_cons_zero, List.set_cons_succ]
        refine' wpAnyH_take (i := 8) (v := _) rfl (by kernel_rfl) (by kernel_rfl) (by kernel_rfl) (fun _ _ _ h => h) (Or.inl ⟨by with_unfolding_all rfl, ?_⟩) (by assumption) ?_
        rotate_left
        focus (intro w hSw; (try dsimp only at hSw); go_simp; try (with_reducible rfl))
        try simp only [List.getElem_toArray, List.getElem_cons_zero, List.getElem_cons_succ, Act.put, List.setIfInBounds_toArray, List.set_cons_zero, List.set_cons_succ]
        refine' wpAnyH_take (i := 9) (v := _) rfl (by kernel_rfl) (by kernel_rfl) (by kernel_rfl) (fun _ _ _ h => h) (Or.inl ⟨by with_unfolding_all rfl, ?_⟩) (by assumption) ?_
        rotate_left
        focus (intro w hSw; (try dsimp only at hSw); go_simp; try (with_reducible rfl))
        try simp only [List.getElem_toArray, List.getElem_cons_zero, List.getElem_cons_succ, Act.put, List.setIfInBounds_toArray, List.set_cons_zero, List.set_cons_succ]
        refine wpAnyH_ready (rs := [10]) (by kernel_rfl) (by simp) ?_
        refine AllReadyH.cons rfl (fun K hK => ?_) AllReadyH.nil
        rw [if_pos (by with_unfolding_all rfl)]
        go_simp
        refine hK.out _ _ (by (try dsimp only); go_keep) (fun hHeld => ?_)
        clear hK K
        try simp only [List.getElem_toArray, List.getElem_cons_zero, List.getElem_cons_succ, Act.put, List.setIfInBounds_toArray, List.set_cons_zero, List.set_cons_succ]
        refine' wpAnyH_take (i := 11) (v := _) rfl (by kernel_rfl) (by kernel_rfl) (by kernel_rfl) (fun _ _ _ h => h) (Or.inl ⟨by with_unfolding_all rfl, ?_⟩) (by assumption) ?_
        rotate_left
        focus (intro w hSw; (try dsimp only at hSw); go_simp; try (with_reducible rfl))
        try simp only [List.getElem_toArray, List.getElem_cons_zero, List.getElem_cons_succ, Act.put, List.setIfInBounds_toArray, List.set_cons_zero, List.set_cons_succ]
        refine wpAnyH_ready (rs := [12]) (by kernel_rfl) (by simp) ?_
        refine AllReadyH.cons rfl (fun K hK => ?_) AllReadyH.nil
        rw [if_pos (by with_unfolding_all rfl)]
        go_simp
        refine hK.out _ _ (by (try dsimp only); go_keep) (fun hHeld => ?_)
        clear hK K
        try simp only [List.getElem_toArray, List.getElem_cons_zero, List.getElem_cons_succ, Act.put, List.setIfInBounds_toArray, List.set_cons_zero, List.set_cons_succ]
        refine' wpAnyH_take (i := 13) (v := _) rfl (by kernel_rfl) (by kernel_rfl) (by kernel_rfl) (fun _ _ _ h => h) (Or.inl ⟨by with_unfolding_all rfl, ?_⟩) (by assumption) ?_
        rotate_left
        focus (intro w hSw; (try dsimp only at hSw); go_simp; try (with_reducible rfl))
        try simp only [List.getElem_toArray, List.getElem_cons_zero, List.getElem_cons_succ, Act.put, List.setIfInBounds_toArray, List.set_cons_zero, List.set_cons_succ]
        refine wpAnyH_ready (rs := [14]) (by kernel_rfl) (by simp) ?_
        refine AllReadyH.cons rfl (fun K hK => ?_) AllReadyH.nil
        rw [if_pos (by with_unfolding_all rfl)]
        go_simp
        refine hK.out _ _ (by (try dsimp only); go_keep) (fun hHeld => ?_)
        clear hK K
        try simp only [List.getElem_toArray, List.getElem_cons_zero, List.getElem_cons_succ, Act.put, List.setIfInBounds_toArray, List.set_cons_zero, List.set_cons_succ]
        refine wpAnyH_done (by kernel_rfl) ?_ _
        exact HEND.out _
  case done =>
    rintro D xs W hD hxs ⟨⟨hne, ⟨sl, hp, hrow⟩, hrb', heb'⟩, hbw⟩ hDd
    clear stops kbL ubL rbL ebL pb1 HL GL
    obtain ⟨sa, sn, sc, rfl⟩ : ∃ a n c, sl = .slice a n c := by rcases hrow.2 with ⟨e, _⟩ | ⟨_, _, _, e, _⟩ <;> exact ⟨_, _, _, e⟩
    obtain ⟨q, s, hq⟩ := stepsFrom_ne (rd hosts mem) page (fcode kind user) 2 root
    have hq' : xs = q ++ [s] := hxs.trans hq
    have hwk : wk (rd hosts mem) hosts.length root page kind user = fin hosts.length page kind user (foldP xs) := by
      rw [wk, ← hxs]; exact wkEnd_fin hq' (hne s (by rw [hq']; simp))
    have hfg : 0 ≤ (foldP xs).g ∧ (foldP xs).g < 1048576 := by
      have h1 := stepsFrom_f (rd hosts mem) page (fcode kind user) 3 root s (by rw [hq]; simp)
      rw [hq', foldP_snoc]; simp only [Path.step]; omega
    have hlen : xs.length = (foldP xs).ats.length := (foldP_len xs).symm
    rw [hlen] at hrow
    obtain ⟨fp1, hfp⟩ : ∃ p, foldP xs = p := ⟨_, rfl⟩
    rw [hfp] at hp hrow hfg hwk
    have HWK := Lib.hid hwk
    clear hfp hlen hwk hq hq' hne q s hxs xs
    obtain ⟨hf0, hf1⟩ := hfg
    have hix := ix_bd page 1
    have kbW := kbK.past hbw
    have ubW := ubK.past hbw
    have p1 := hp.cell (k := 1) rfl
    have p5 := hp.cell (k := 5) rfl
    have pf := fun k => hp.free k
    have pl := hp.lt
    have b1 := hbw.size
    have RD0 : RD wK W1.heap.size (w.heap.size + 1 + 1) (w.heap.size + 1 + 1 + 1) D (.slice sa sn sc) fp1 W := ⟨hp, hrow, hrb', heb', hbw, hDd⟩
    have n2 : w.heap.size + 1 + 1 ≠ W1.heap.size := by omega
    have n3 : w.heap.size + 1 + 1 + 1 ≠ W1.heap.size := by omega
    have n4 : wK.heap.size ≤ W1.heap.size := by omega
    have hDW := (lt_of_block hDd)
    clear hp hrow hrb' heb' hbw hDd
    obtain ⟨g2, hg2⟩ : ∃ g2, (if fp1.large then fp1.g + ix page 1 else fp1.g) = g2 := ⟨_, rfl⟩
    have HG := Lib.hid hg2
    clear hg2
    gi_step
    gi_step
    gi_step
    gi_cut [] from 57 (fun wx => RD wK W1.heap.size (w.heap.size + 1 + 1) (w.heap.size + 1 + 1 + 1) D (.slice sa sn sc) { fp1 with g := g2 } wx)
    case first =>
      cases hl : fp1.large with
      | false =>
        rw [hl] at p5
        have HL := Lib.hid hl
        clear hl
        gi_wp2
        gi_meet
        have e : g2 = fp1.g := by rw [← HG.out, HL.out]; rfl
        rw [e]
        exact RD0
      | true =>
        rw [hl] at p5
        have HL := Lib.hid hl
        clear hl
        gi_wp2_with fail
        refine wpIn_wide.2 ?_
        refine wp_region_noPanic ?_
        go_region_with (first | (go_at_call 61; refine (idx_bel _ _ _).mono ?_; rintro e w5 ⟨rfl, hb5⟩; have RD5 := RD0.past (wy := w5) (by first | exact hb5 | exact (Below.refl _ W).drew.trans hb5); have r51 := RD5.1.cell (k := 1) rfl; have r5f := fun k => RD5.1.free k; have r5l := RD5.1.lt))
        all_goals refine NoPanic.normal ?_
        all_goals go_wp2_with fail
        all_goals gi_meet
        all_goals
          have e : g2 = IntKind.i64.wrap (fp1.g + ix page 1) := by rw [← HG.out, HL.out, IntWalk.i64_in _ (by omega)]; rfl
          rw [e]
          exact RD5.setG n2 n3 n4 _
    case rest =>
      clear RD0 p1 p5 pf pl hix
      obtain ⟨r, hr⟩ : ∃ r, ({ fp1 with g := g2 } : Path) = r := ⟨_, rfl⟩
      rw [hr] at hcut
      have p1 := hcut.1.cell (k := 1) rfl
      have p2 := hcut.1.cell (k := 2) rfl
      have p3 := hcut.1.cell (k := 3) rfl
      have p4 := hcut.1.cell (k := 4) rfl
      have kb0 := (kbK.past hcut.2.2.2.2.1).cell (k := 0) rfl
      have ub0 := (ubK.past hcut.2.2.2.2.1).cell (k := 0) rfl
      have HR := Lib.hid hr
      clear hr
      obtain ⟨mb, hmb⟩ : ∃ mb, may r.r kind user = mb := ⟨_, rfl⟩
      have HM := Lib.hid hmb
      clear hmb
      gi_wp2_with fail
      (with_reducible refine wide3 ?_); go_at_call 124
      refine (may_open _ r.r kind user mb HM.out).mono ?_
      rintro e w6 ⟨rfl, hb6⟩
      have RD6 := hcut.past hb6
      have RF0 : RF wK (w.heap.size + 1 + 1) (w.heap.size + 1 + 1 + 1) D (.slice sa sn sc) r.ats.length (atCells r.ats) [.slice none 0 0, .int .i64 0, .bool false, .bool false, .bool false, .bool false, .bool false] [.nilIface] w6 := ⟨RD6.2.2.1, RD6.2.2.2.1, RD6.2.1, RD6.2.2.2.2.1, RD6.2.2.2.2.2⟩
      have kb6 := (kbK.past RD6.2.2.2.2.1).cell (k := 0) rfl
      have ub6 := (ubK.past RD6.2.2.2.2.1).cell (k := 0) rfl
      have m4 : w.heap.size + 1 + 1 + 1 ≠ w.heap.size + 1 + 1 := by omega
      have m5 : w.heap.size + 1 + 1 ≠ w.heap.size + 1 + 1 + 1 := by omega
      have z0 := RF0.1.cell (k := 0) rfl
      have z1 := RF0.1.cell (k := 1) rfl
      have z2 := RF0.1.cell (k := 2) rfl
      have z3 := RF0.1.cell (k := 3) rfl
      have z4 := RF0.1.cell (k := 4) rfl
      have z5 := RF0.1.cell (k := 5) rfl
      have z6 := RF0.1.cell (k := 6) rfl
      have y0 := RF0.2.1.cell (k := 0) rfl
      have zf := fun k => RF0.1.free k
      have yf := fun k => RF0.2.1.free k
      have zl := RF0.1.lt
      have yl := RF0.2.1.lt
      clear p1 p2 p3 p4 kb0 ub0 hcut
      have hfin : wk (rd hosts mem) hosts.length root page kind user = if mb = false then .error (1, fcode kind user true false) else if (hosts.length : Int) ≤ r.g then .error (3, 0) else .ok r := by
        have h1 := HM.out
        rw [HWK.out]
        rw [← HR.out] at h1 ⊢
        unfold fin
        rw [h1, HG.out]
      have F1 : mb = false → wk (rd hosts mem) hosts.length root page kind user = .error (1, fcode kind user true false) := fun h => by rw [hfin, if_pos h]
      have F2 : mb = true → (hosts.length : Int) ≤ r.g → wk (rd hosts mem) hosts.length root page kind user = .error (3, 0) := fun h h' => by rw [hfin, if_neg (by rw [h]; decide), if_pos h']
      have F3 : mb = true → ¬ (hosts.length : Int) ≤ r.g → wk (rd hosts mem) hosts.length root page kind user = .ok r := fun h h' => by rw [hfin, if_neg (by rw [h]; decide), if_neg h']
      have HF1 := Lib.hid F1
      have HF2 := Lib.hid F2
      have HF3 := Lib.hid F3
      clear hfin F1 F2 F3
      cases mb with
      | false =>
        gi_wp2_with fail
        (with_reducible refine wide3 ?_); go_at_call 121
        refine (cd_any w6 w.heap.size (w.heap.size + 1) kind user true false kb6 ub6).mono ?_
        rintro e w' ⟨rfl, rfl⟩
        gi_wp2
        have RF9 := RF.setE (RF.setR (RF.setR (RF.setR (RF.setR (RF.setR (RF.setR (RF.setR RF0 m4 (by omega) 0 (.slice none 0 0)) m4 (by omega) 1 (.int .i64 0)) m4 (by omega) 2 (.bool false)) m4 (by omega) 3 (.bool false)) m4 (by omega) 4 (.bool false)) m4 (by omega) 5 (.bool false)) m4 (by omega) 6 (.bool false)) m5 (by omega) (.iface 151 (.agg #[.int .i64 1, .int .i64 (fcode kind user true false)]))
        refine ⟨by simp, .inl ⟨_, _, rfl, run_takeDeferred RF9.2.2.2.2, ?_⟩⟩
        obtain ⟨R, E', OW, BB⟩ := RF9.own (by have := BL.size; omega)
        have r0 := R.cell (k := 0) (v := .slice none 0 0) rfl
        have r1 := R.cell (k := 1) (v := .int .i64 0) rfl
        have r2 := R.cell (k := 2) (v := .bool false) rfl
        have r3 := R.cell (k := 3) (v := .bool false) rfl
        have r4 := R.cell (k := 4) (v := .bool false) rfl
        have r5 := R.cell (k := 5) (v := .bool false) rfl
        have r6 := R.cell (k := 6) (v := .bool false) rfl
        have e0 := E'.cell (k := 0) (v := .iface 151 (.agg #[.int .i64 1, .int .i64 (fcode kind user true false)])) rfl
        refine ⟨.tuple #[.agg #[.slice none 0 0, .int .i64 0, .bool false, .bool false, .bool false, .bool false, .bool false], .iface 151 (.agg #[.int .i64 1, .int .i64 (fcode kind user true false)])], by simp [results, Tryz.f72, go_sem, r0, r1, r2, r3, r4, r5, r6, e0], ?_⟩
        rw [HF1.out (by simp)]
        exact ⟨BK.trans (BB.mono (by omega)), rfl⟩
      | true =>
        have q0 := RD6.1.cell (k := 0) rfl
        have q1 := RD6.1.cell (k := 1) rfl
        have q2 := RD6.1.cell (k := 2) rfl
        have q3 := RD6.1.cell (k := 3) rfl
        have q4 := RD6.1.cell (k := 4) rfl
        have q5 := RD6.1.cell (k := 5) rfl
        have q6 := RD6.1.cell (k := 6) rfl
        have ql := RD6.1.lt
        have G6 := G.past (BK.trans (RD6.2.2.2.2.1.mono (by omega)))
        by_cases hle : (hosts.length : Int) ≤ r.g
        · gi_wp2_with fail
          refine wpIn_wide.2 ?_
          refine wp_region_noPanic ?_
          go_region_held3 (fun w' => w'.cell? ⟨W1.heap.size, 1, none⟩ = some (.int .i64 r.g)) (go_keep) (first | (go_at_call 82; refine (frames_any _ _ _ _ _ _ _ _ _ (by first | exact G6 | exact G6.drew)).mono ?_; rintro e w' ⟨rfl, rfl⟩))
          all_goals refine NoPanic.normal ?_
          all_goals gi_wp2
          have RF9 := RF.drew (RF.setE (RF.setR (RF.setR (RF.setR (RF.setR (RF.setR (RF.setR (RF.setR RF0 m4 (by omega) 0 (.slice none 0 0)) m4 (by omega) 1 (.int .i64 0)) m4 (by omega) 2 (.bool false)) m4 (by omega) 3 (.bool false)) m4 (by omega) 4 (.bool false)) m4 (by omega) 5 (.bool false)) m4 (by omega) 6 (.bool false)) m5 (by omega) (.iface 151 (.agg #[.int .i64 3, .int .i64 0])))
          refine ⟨by simp, .inl ⟨_, _, rfl, run_takeDeferred RF9.2.2.2.2, ?_⟩⟩
          obtain ⟨R, E', OW, BB⟩ := RF9.own (by have := BL.size; omega)
          have r0 := R.cell (k := 0) (v := .slice none 0 0) rfl
          have r1 := R.cell (k := 1) (v := .int .i64 0) rfl
          have r2 := R.cell (k := 2) (v := .bool false) rfl
          have r3 := R.cell (k := 3) (v := .bool false) rfl
          have r4 := R.cell (k := 4) (v := .bool false) rfl
          have r5 := R.cell (k := 5) (v := .bool false) rfl
          have r6 := R.cell (k := 6) (v := .bool false) rfl
          have e0 := E'.cell (k := 0) (v := .iface 151 (.agg #[.int .i64 3, .int .i64 0])) rfl
          refine ⟨.tuple #[.agg #[.slice none 0 0, .int .i64 0, .bool false, .bool false, .bool false, .bool false, .bool false], .iface 151 (.agg #[.int .i64 3, .int .i64 0])], by simp [results, Tryz.f72, go_sem, r0, r1, r2, r3, r4, r5, r6, e0], ?_⟩
          rw [HF2.out (by simp) hle]
          exact ⟨BK.trans (BB.mono (by omega)), rfl⟩
        · gi_wp2_with fail
          refine wpIn_wide.2 ?_
          refine wp_region_noPanic ?_
          go_region_held3 (fun w' => w'.cell? ⟨W1.heap.size, 1, none⟩ = some (.int .i64 r.g)) (go_keep) (first | (go_at_call 82; refine (frames_any _ _ _ _ _ _ _ _ _ (by first | exact G6 | exact G6.drew)).mono ?_; rintro e w' ⟨rfl, rfl⟩))
          all_goals refine NoPanic.normal ?_
          all_goals gi_wp2
          have RF9 := RF.drew (RF.setE (RF.setR (RF.setR (RF.setR (RF.setR (RF.setR (RF.setR (RF.setR RF0 m4 (by omega) 0 (.slice sa sn sc)) m4 (by omega) 1 (.int .i64 r.g)) m4 (by omega) 2 (.bool r.r.w)) m4 (by omega) 3 (.bool r.r.u)) m4 (by omega) 4 (.bool r.r.x)) m4 (by omega) 5 (.bool r.large)) m4 (by omega) 6 (.bool r.dirty)) m5 (by omega) (.nilIface))
          refine ⟨by simp, .inl ⟨_, _, rfl, run_takeDeferred RF9.2.2.2.2, ?_⟩⟩
          obtain ⟨R, E', OW, BB⟩ := RF9.own (by have := BL.size; omega)
          have r0 := R.cell (k := 0) (v := .slice sa sn sc) rfl
          have r1 := R.cell (k := 1) (v := .int .i64 r.g) rfl
          have r2 := R.cell (k := 2) (v := .bool r.r.w) rfl
          have r3 := R.cell (k := 3) (v := .bool r.r.u) rfl
          have r4 := R.cell (k := 4) (v := .bool r.r.x) rfl
          have r5 := R.cell (k := 5) (v := .bool r.large) rfl
          have r6 := R.cell (k := 6) (v := .bool r.dirty) rfl
          have e0 := E'.cell (k := 0) (v := .nilIface) rfl
          refine ⟨.tuple #[.agg #[.slice sa sn sc, .int .i64 r.g, .bool r.r.w, .bool r.r.u, .bool r.r.x, .bool r.large, .bool r.dirty], .nilIface], by simp [results, Tryz.f72, go_sem, r0, r1, r2, r3, r4, r5, r6, e0], ?_⟩
          rw [HF3.out (by simp) hle]
          exact ⟨BK.trans (BB.mono (by omega)), _, rfl, ownsRow_base OW (by omega)⟩
  case stop =>
    rintro D c pre W hD ⟨q', hpre⟩ ⟨⟨rfl, ⟨q, s, h, cd, hq, her, heb'⟩, hrb'⟩, hbw⟩ hDd
    clear stops kbL ubL rbL ebL pb1 HL GL
    rw [hq] at hpre
    have hq0 := stepsFrom_noerr hpre (by rw [her]; rfl)
    have hwk : wk (rd hosts mem) hosts.length root page kind user = .error (h, cd) := by
      rw [wk]; refine wkEnd_err (q := q) (s := s) ?_ her
      rw [← hpre, hq0]; simp
    rw [hwk]
    clear hq0 hwk hpre hq her
    gi_wp2
    refine ⟨by simp, .inl ⟨_, _, rfl, run_takeDeferred hDd, ?_⟩⟩
    have hgr := grownBy_putObj' W D (.deferred none)
    have hno : ∀ r, some D = some r → ∃ o : Obj, W.heap[r]? = some o ∧ o.isCells = false := fun r e => by cases e; exact ⟨_, hDd, rfl⟩
    have R := hrb'.own hgr hno
    have E' := heb'.own hgr hno
    have r0 := R.cell (k := 0) rfl
    have r1 := R.cell (k := 1) (v := .int .i64 0) rfl
    have r2 := R.cell (k := 2) (v := .bool false) rfl
    have r3 := R.cell (k := 3) (v := .bool false) rfl
    have r4 := R.cell (k := 4) (v := .bool false) rfl
    have r5 := R.cell (k := 5) (v := .bool false) rfl
    have r6 := R.cell (k := 6) (v := .bool false) rfl
    have e0 := E'.cell (k := 0) rfl
    refine ⟨.tuple #[.agg #[.slice none 0 0, .int .i64 0, .bool false, .bool false, .bool false, .bool false, .bool false], .iface 151 (.agg #[.int .i64 h, .int .i64 cd])], by simp [results, Tryz.f72, go_sem, r0, r1, r2, r3, r4, r5, r6, e0], ?_, rfl⟩
    exact BK.trans ((hbw.grown hgr hbw.size (fun k e => by cases e; have := BL.size; omega)).mono (by omega))
end Go.Proofs.YtglohconhbcchaaGreatDoor
