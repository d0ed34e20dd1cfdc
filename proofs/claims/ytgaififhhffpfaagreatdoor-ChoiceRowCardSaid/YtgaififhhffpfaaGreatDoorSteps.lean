/- The steps of a walk: what they are, and the contract of the iterator that tells them. -/
import Derived.Test.YtgaififhhffpfaaGreatDoorRight
import Derived.RangeFuncNested
import Derived.RangeFuncBound
import Derived.RangeFuncCalls
import Derived.RangeFuncLeaves
import Derived.Shelf.Abstract
import Derived.Shelf.RegionOpen
import Derived.OwnWalkIn
import Derived.TacticsInMore
import Derived.LoopNIn
import Derived.LoopIn
import Derived.Deep.RegionHeld3
import Derived.Deep.DeepCutAuto
import Derived.Sort.CutIn
namespace Go.Proofs.YtgaififhhffpfaaGreatDoor
open Go.RowKit Go.Shelf
attribute [local go_sem] Oper.semAt_some

/-- A step of a walk: an entry, its level, where it stands, and what is wrong with it. -/
structure St where
  e : Pte
  lv : Nat
  g : Int
  i : Int
  er : Option (Int × Int)
def badE (e : Pte) (lv : Nat) : Bool := e.bad || (e.ps && (decide (lv ≠ 2) || decide (e.f % 8 ≠ 0)))
def lastE (e : Pte) (lv : Nat) : Bool := decide (lv = 1) || e.ps
def stepAt (get : Int → Int → Option Nat) (page : Int) (cd : Bool → Bool → Int) (lv : Nat) (g : Int) : St :=
  { e := pte ((get g (ix page lv)).getD 0), lv := lv, g := g, i := ix page lv,
    er := if (get g (ix page lv)).isNone then some (3, 0) else if (pte ((get g (ix page lv)).getD 0)).p = false then some (1, cd false false)
      else if badE (pte ((get g (ix page lv)).getD 0)) lv = true then some (1, cd true true) else none }
def stepsFrom (get : Int → Int → Option Nat) (page : Int) (cd : Bool → Bool → Int) : Nat → Int → List St
  | 0, _ => []
  | n + 1, g => if (stepAt get page cd (n + 1) g).er.isSome || lastE (stepAt get page cd (n + 1) g).e (n + 1) then [stepAt get page cd (n + 1) g]
      else stepAt get page cd (n + 1) g :: stepsFrom get page cd n ((stepAt get page cd (n + 1) g).e.f : Int)
def errv : Option (Int × Int) → Value
  | none => .nilIface
  | some (h, c) => .iface 114 (.agg #[.int .i64 h, .int .i64 c])
def St.val (s : St) : Array Value := #[.bool s.e.p, .bool s.e.w, .bool s.e.u, .bool s.e.a, .bool s.e.d, .bool s.e.ps, .bool s.e.nx, .bool s.e.bad, .int .i64 (s.e.f : Int), .int .i64 (s.lv : Int), .int .i64 s.g, .int .i64 s.i, errv s.er]

theorem bad_any (w : World) (e : Pte) (lv : Nat) (g i : Int) :
    Calls Tryz.prog 147 #[.agg #[.bool e.p, .bool e.w, .bool e.u, .bool e.a, .bool e.d, .bool e.ps, .bool e.nx, .bool e.bad, .int .i64 (e.f : Int), .int .i64 (lv : Int), .int .i64 g, .int .i64 i, .nilIface]] w
      fun r w' => r = .returned (.bool (badE e lv)) ∧ Below w.heap.size w w' := by
  obtain ⟨p, w1, u, a, d, ps, nx, bad, f⟩ := e
  dsimp only
  unfold badE
  dsimp only
  cases bad
  · cases ps
    · go_enter Tryz.func147, Tryz.ntmps147
      go_wp2
      go_ret
      exact ⟨rfl, (Below.refl _ _).alloc (Nat.le_refl _) _⟩
    · by_cases hl : lv = 2
      · subst hl
        have hm : ((f : Int) % 8) = ((f % 8 : Nat) : Int) := rfl
        have hb : decide (f % 8 ≠ 0) = ((f : Int) % 8 != 0) := by rw [Bool.eq_iff_iff, bne_iff_ne, decide_eq_true_iff]; omega
        have Hb := Lib.hid hb
        clear hb hm
        go_enter Tryz.func147, Tryz.ntmps147
        go_wp2
        go_ret
        refine ⟨?_, (Below.refl _ _).alloc (Nat.le_refl _) _⟩
        rw [Hb.out]
        rfl
      · have h2 : ((lv : Int) == 2) = false := by rw [beq_eq_false_iff_ne]; omega
        have h3 : ((lv : Int) != 2) = true := by rw [bne_iff_ne]; omega
        go_enter Tryz.func147, Tryz.ntmps147
        go_wp2
        go_ret
        refine ⟨?_, (Below.refl _ _).alloc (Nat.le_refl _) _⟩
        simp [hl]
  · go_enter Tryz.func147, Tryz.ntmps147
    go_wp2
    go_ret
    exact ⟨rfl, (Below.refl _ _).alloc (Nat.le_refl _) _⟩

theorem last_any (w : World) (e : Pte) (lv : Nat) (g i : Int) :
    Calls Tryz.prog 148 #[.agg #[.bool e.p, .bool e.w, .bool e.u, .bool e.a, .bool e.d, .bool e.ps, .bool e.nx, .bool e.bad, .int .i64 (e.f : Int), .int .i64 (lv : Int), .int .i64 g, .int .i64 i, .nilIface]] w
      fun r w' => r = .returned (.bool (lastE e lv)) ∧ Below w.heap.size w w' := by
  obtain ⟨p, w1, u, a, d, ps, nx, bad, f⟩ := e
  dsimp only
  unfold lastE
  dsimp only
  by_cases hl : lv = 1
  · subst hl
    go_enter Tryz.func148, Tryz.ntmps148
    go_wp2
    go_ret
    exact ⟨rfl, (Below.refl _ _).alloc (Nat.le_refl _) _⟩
  · have h2 : ((lv : Int) == 1) = false := by rw [beq_eq_false_iff_ne]; omega
    go_enter Tryz.func148, Tryz.ntmps148
    go_wp2
    go_ret
    refine ⟨?_, (Below.refl _ _).alloc (Nat.le_refl _) _⟩
    simp [hl]

theorem bad_open (w : World) (e : Pte) (lv : Nat) (li g i : Int) (b : Bool) (hl : (lv : Int) = li) (hb : badE e lv = b) :
    Calls Tryz.prog 147 #[.agg #[.bool e.p, .bool e.w, .bool e.u, .bool e.a, .bool e.d, .bool e.ps, .bool e.nx, .bool e.bad, .int .i64 (e.f : Int), .int .i64 li, .int .i64 g, .int .i64 i, .nilIface]] w
      fun r w' => r = .returned (.bool b) ∧ Below w.heap.size w w' := by subst hl; subst hb; exact bad_any w e lv g i
theorem last_open (w : World) (e : Pte) (lv : Nat) (li g i : Int) (b : Bool) (hl : (lv : Int) = li) (hb : lastE e lv = b) :
    Calls Tryz.prog 148 #[.agg #[.bool e.p, .bool e.w, .bool e.u, .bool e.a, .bool e.d, .bool e.ps, .bool e.nx, .bool e.bad, .int .i64 (e.f : Int), .int .i64 li, .int .i64 g, .int .i64 i, .nilIface]] w
      fun r w' => r = .returned (.bool b) ∧ Below w.heap.size w w' := by subst hl; subst hb; exact last_any w e lv g i

theorem cd_any (w : World) (kb ub : Nat) (kind : Int) (user there bad : Bool) (hk : w.cell? ⟨kb, 0, none⟩ = some (.int .i64 kind)) (hu : w.cell? ⟨ub, 0, none⟩ = some (.bool user)) :
    Calls Tryz.prog 110 #[.bool there, .bool bad, .pointer (some ⟨kb, 0, none⟩), .pointer (some ⟨ub, 0, none⟩)] w
      fun r w' => r = .returned (.int .i64 (fcode kind user there bad)) ∧ w = w' := by
  go_enter Tryz.func110, Tryz.ntmps110
  go_wp2_with (go_at_call 111; refine (code_any _ _ _ _ _).mono ?_; rintro e w' ⟨rfl, rfl⟩)
  go_ret
  exact ⟨rfl, rfl⟩

def St.enc (s : St) : Array Value := #[.agg s.val]
theorem cin {P : Program} {f : FuncId} {args : Array Value} {w : World} {R : Ending → World → Prop} (n : Nat) (h : Calls P f args w R) : CallsIn Fence.wide n P f args w R := callsIn_wide.2 h
theorem wide3 {f : FuncId} {P : Program} {args : Array Value} {w : World} {R : Ending → World → Prop} {n : Nat} {m : Prop} (h : Calls P f args w R) :
    Fence.wide.fn f ∧ (Fence.wide.depth.isSome = true → m) ∧ CallsIn Fence.wide n P f args w R := ⟨trivial, fun e => (by cases e), cin n h⟩
theorem wide3r {f : FuncId} {P : Program} {args : Array Value} {w : World} {R : Ending → World → Prop} {n : Nat} {m : Prop} (l : Nat) (h : Calls P f args w R) :
    Fence.wide.fn f ∧ (Fence.wide.depth.isSome = true → m) ∧ CallsIn (Fence.wide.inRound l) n P f args w R := ⟨trivial, fun e => (by cases e), cin n h⟩
/-- what the iterator has captured -/
structure Env (w : World) (rb pb mb cb kb ub p : Nat) (root page kind : Int) (user : Bool) : Prop where
  rc : Blk w rb 3 [.int .i64 root]
  pc : Blk w pb 3 [.int .i64 page]
  mc : Blk w mb 27 [.pointer (some ⟨p, 0, none⟩)]
  cc : Blk w cb 170 [.func (.func 110) #[] #[.pointer (some ⟨kb, 0, none⟩), .pointer (some ⟨ub, 0, none⟩)]]
  kc : Blk w kb 3 [.int .i64 kind]
  uc : Blk w ub 4 [.bool user]
theorem Env.past {w w' : World} {rb pb mb cb kb ub p : Nat} {root page kind : Int} {user : Bool} (E : Env w rb pb mb cb kb ub p root page kind user) (h : Below w.heap.size w w') : Env w' rb pb mb cb kb ub p root page kind user :=
  ⟨E.rc.past h, E.pc.past h, E.mc.past h, E.cc.past h, E.kc.past h, E.uc.past h⟩
theorem Env.keepT {w w' : World} {rb pb mb cb kb ub p : Nat} {root page kind : Int} {user : Bool} (E : Env w rb pb mb cb kb ub p root page kind user) {S : Nat → Prop} (h : KeepT 53 S w w')
    (hS : ¬ S rb ∧ ¬ S pb ∧ ¬ S mb ∧ ¬ S cb ∧ ¬ S kb ∧ ¬ S ub) : Env w' rb pb mb cb kb ub p root page kind user :=
  ⟨E.rc.keepT h (by decide) hS.1, E.pc.keepT h (by decide) hS.2.1, E.mc.keepT h (by decide) hS.2.2.1, E.cc.keepT h (by decide) hS.2.2.2.1, E.kc.keepT h (by decide) hS.2.2.2.2.1, E.uc.keepT h (by decide) hS.2.2.2.2.2⟩

theorem stepsFrom_end {get : Int → Int → Option Nat} {page : Int} {cd : Bool → Bool → Int} {k : Nat} {g : Int} {s : St} (h : stepAt get page cd (k + 1) g = s) (he : (s.er.isSome || lastE s.e (k + 1)) = true) :
    stepsFrom get page cd (k + 1) g = [s] := by
  subst h; simp only [stepsFrom]; rw [if_pos he]
theorem stepsFrom_on {get : Int → Int → Option Nat} {page : Int} {cd : Bool → Bool → Int} {k : Nat} {g : Int} {s : St} (h : stepAt get page cd (k + 1) g = s) (he : (s.er.isSome || lastE s.e (k + 1)) = false) :
    stepsFrom get page cd (k + 1) g = s :: stepsFrom get page cd k (s.e.f : Int) := by
  subst h; simp only [stepsFrom]; rw [if_neg (by rw [he]; simp)]
def erOf (o : Option Nat) (e : Pte) (lv : Nat) (cd : Bool → Bool → Int) : Option (Int × Int) :=
  if o.isNone then some (3, 0) else if e.p = false then some (1, cd false false) else if badE e lv = true then some (1, cd true true) else none
theorem erOf_np {v : Nat} {e : Pte} {lv : Nat} {cd : Bool → Bool → Int} (h : e.p = false) : erOf (some v) e lv cd = some (1, cd false false) := by simp [erOf, h]
theorem erOf_bad {v : Nat} {e : Pte} {lv : Nat} {cd : Bool → Bool → Int} (h : e.p = true) (hb : badE e lv = true) : erOf (some v) e lv cd = some (1, cd true true) := by simp [erOf, h, hb]
theorem erOf_ok {v : Nat} {e : Pte} {lv : Nat} {cd : Bool → Bool → Int} (h : e.p = true) (hb : badE e lv = false) : erOf (some v) e lv cd = none := by simp [erOf, h, hb]
theorem stepAt_eq {get : Int → Int → Option Nat} {page : Int} {cd : Bool → Bool → Int} {lv : Nat} {g : Int} {o : Option Nat} {e : Pte} (ho : get g (ix page lv) = o) (he : pte (o.getD 0) = e) :
    stepAt get page cd lv g = St.mk e lv g (ix page lv) (erOf o e lv cd) := by
  subst ho; subst he; rfl

set_option maxRecDepth 100000 in
set_option maxHeartbeats 4000000 in
theorem steps_stops (n : Nat) (hn : 3 ≤ n) (S : Nat → Prop) (w : World) (rb pb mb cb kb ub p gp hb mp fp fb : Nat) (hosts mem : List Nat) (cap nf : Nat) (root page kind : Int) (user : Bool)
    (E : Env w rb pb mb cb kb ub p root page kind user) (H : Host w fp fb nf mem) (G : Guest w p gp hb mp fp hosts cap nf)
    (hS : ¬ S rb ∧ ¬ S pb ∧ ¬ S mb ∧ ¬ S cb ∧ ¬ S kb ∧ ¬ S ub) (hS' : ¬ S p ∧ ¬ S gp ∧ ¬ S hb ∧ ¬ S fp ∧ ¬ S fb) (hSn : ∀ k, w.heap.size ≤ k → ¬ S k) :
    SeqStopsK Fence.wide n Tryz.prog 146 #[.pointer (some ⟨rb, 0, none⟩), .pointer (some ⟨pb, 0, none⟩), .pointer (some ⟨mb, 0, none⟩), .pointer (some ⟨cb, 0, none⟩)] St.enc (KeepT 53 S)
      (fun xs => xs = stepsFrom (rd hosts mem) page (fcode kind user) 3 root) (fun pre => ∃ q, pre ++ q = stepsFrom (rd hosts mem) page (fcode kind user) 3 root) 3 w := by
  intro l J Jx W hW hJ hJx hY h0
  have hSn' : ∀ k, W.heap.size ≤ k → ¬ S k := fun k hk => hSn k (Nat.le_trans hW.size hk)
  replace E := E.past hW
  replace H := H.past hW
  replace G := G.past hW
  clear hW hSn w
  have e1 := E.rc.cell (k := 0) rfl
  refine callsIn_of_wp Tryz.func146 rfl trivial ?_ rfl
  simp only [Tryz.ntmps146, List.size_toArray, List.length_cons, List.length_nil, Nat.reduceAdd, Nat.reduceSub, Array.replicate_succ, Array.replicate_zero, List.push_toArray, List.append_toArray, List.nil_append, List.cons_append]
  gi_wp2
  gi_loopw [6, 7] (fun g lv wr => ∃ (k : Nat) (gi : Int) (pre : List St), k ≤ 3 ∧ lv = .int .i64 k ∧ g = .int .i64 gi ∧ pre ++ stepsFrom (rd hosts mem) page (fcode kind user) k gi = stepsFrom (rd hosts mem) page (fcode kind user) 3 root ∧ pre.length + k = 3 ∧ J pre wr ∧ KeepT 53 S W wr)
    (fun _ lv _ => (intOf lv).toNat)
  case atStart => exact ⟨3, root, [], by omega, rfl, rfl, rfl, rfl, h0, KeepT.refl _ _ _⟩
  case round =>
    obtain ⟨k, gi, pre, hk, rfl, rfl, hpre, hlen, hJp, hK⟩ := hrel
    clear h0 e1
    replace E := E.keepT hK hS
    replace H := H.keepT hK hS'.2.2.2.1 hS'.2.2.2.2
    replace G := G.keepT hK hS'.1 hS'.2.1 hS'.2.2.1
    cases k with
    | zero =>
      have HP := Lib.hid hpre
      clear hpre hlen
      gi_wp2
      refine bodyPost_end (results_none rfl _ _ _) rfl ?_
      exact ⟨⟨_, rfl⟩, .inl ⟨pre, by have := HP.out; simpa [stepsFrom] using this, hJp⟩⟩
    | succ k =>
      have HP := Lib.hid hpre
      have HL := Lib.hid hlen
      clear hpre hlen
      have e2 := E.pc.cell (k := 0) rfl
      have gk1 : ((k : Int) + 1) ≤ 3 := by omega
      have lt2 := lt_of_cell e2
      gi_wp2_with fail
      (with_reducible refine wide3 ?_); go_at_call 116
      refine (idx_bel _ _ _).mono ?_
      rintro e w1 ⟨rfl, hb1⟩
      have E1 := E.past hb1
      have H1 := H.past hb1
      have G1 := G.past hb1
      have e3 := E1.mc.cell (k := 0) rfl
      have lt3 := lt_of_cell e3
      clear e2 lt2
      gi_wp2_with fail
      have hb2 := (Below.refl w1.heap.size w1).alloc (Nat.le_refl _) (.cells #[.int .i64 gi, .int .i64 (ix page (↑k + 1))] 53)
      obtain ⟨o, ho⟩ : ∃ o, rd hosts mem gi (ix page (↑k + 1)) = o := ⟨_, rfl⟩
      have hv : o.getD 0 < 2 ^ 64 := ho ▸ rd_lt (hosts := hosts) H.bd gi (ix page ((k : Int) + 1))
      have HO := Lib.hid ho
      clear ho
      (with_reducible refine wide3 ?_); go_at_call 21
      refine (get_open _ _ _ _ _ _ _ _ _ _ _ _ _ _ HO.out (H1.past hb2) (G1.past hb2)).mono ?_
      rintro e w' ⟨rfl, rfl⟩
      clear e3 lt3
      gi_wp2_with fail
      obtain ⟨ep, hep⟩ : ∃ ep, pte (o.getD 0) = ep := ⟨_, rfl⟩
      have HE := Lib.hid hep
      clear hep
      gi_cut [11] from 31 (fun s11 wx => ∃ s : Nat, s11 = .pointer (some ⟨s, 0, none⟩) ∧ Blk wx s 176 [.bool ep.p, .bool ep.w, .bool ep.u, .bool ep.a, .bool ep.d, .bool ep.ps, .bool ep.nx, .bool ep.bad, .int .i64 (ep.f : Int), .int .i64 ((k : Int) + 1), .int .i64 gi, .int .i64 (ix page (↑k + 1)), .nilIface] ∧ Below wr.heap.size wr wx ∧ wr.heap.size ≤ s)
      case first =>
        refine wpIn_wide.2 ?_
        have h12 := hb1.trans (hb2.mono hb1.size)
        have hs1 := hb1.size
        go_region_held3 (fun w' => w'.cell? ⟨w1.heap.size, 0, none⟩ = some (.int .i64 gi) ∧ w'.cell? ⟨w1.heap.size, 1, none⟩ = some (.int .i64 (ix page (↑k + 1)))) (go_keep)
          (first | (go_at_call 101; refine (pget_open _ _ _ HE.out hv).mono ?_; rintro e w2 ⟨rfl, hb3⟩; have d0 := hb3.cell (p := ⟨w1.heap.size, 0, none⟩) (by first | (simp; done) | (simp; omega)); have d1 := hb3.cell (p := ⟨w1.heap.size, 1, none⟩) (by first | (simp; done) | (simp; omega)); have c2 := (bcell hb3).1; have f2 := (bcell hb3).2; have z2 := hb3.size))
        all_goals go_wp2_with fail
        · go_meet
          have hs2 := hb3.size
          simp at hs2
          exact ⟨w2.heap.size, rfl, Blk.new _ _ [_, _, _, _, _, _, _, _, _, _, _, _, _], (h12.drew.trans (hb3.mono (by simp; omega))).alloc (by omega) _, by omega⟩
        · go_meet
          have hs2 := hb3.size
          simp at hs2
          have b0 : Blk w2 (w1.heap.size + 1) 176 [.bool false, .bool false, .bool false, .bool false, .bool false, .bool false, .bool false, .bool false, .int .i64 0, .int .i64 0, .int .i64 0, .int .i64 0, .nilIface] := by
            have h := Blk.new (w1.alloc (.cells #[.int .i64 gi, .int .i64 (ix page (↑k + 1))] 53)) 176 [.bool false, .bool false, .bool false, .bool false, .bool false, .bool false, .bool false, .bool false, .int .i64 0, .int .i64 0, .int .i64 0, .int .i64 0, .nilIface]
            rw [World.size_alloc] at h
            exact h.drew.past hb3
          have hB2 := (((h12.alloc (by simp; omega) _).drew.trans (hb3.mono (by simp; omega))))
          refine ⟨w1.heap.size + 1, rfl, (((((((((((((b0.set 0 _).set 1 _).set 2 _).set 3 _).set 4 _).set 5 _).set 6 _).set 7 _).set 8 _).set 9 _).set 10 _).set 11 _).set 12 _), ?_, by omega⟩
          have hle : wr.heap.size ≤ w1.heap.size + 1 := by omega
          exact ((((((((((((hB2.setCell (p := ⟨_, _, _⟩) hle _).setCell (p := ⟨_, _, _⟩) hle _).setCell (p := ⟨_, _, _⟩) hle _).setCell (p := ⟨_, _, _⟩) hle _).setCell (p := ⟨_, _, _⟩) hle _).setCell (p := ⟨_, _, _⟩) hle _).setCell (p := ⟨_, _, _⟩) hle _).setCell (p := ⟨_, _, _⟩) hle _).setCell (p := ⟨_, _, _⟩) hle _).setCell (p := ⟨_, _, _⟩) hle _).setCell (p := ⟨_, _, _⟩) hle _).setCell (p := ⟨_, _, _⟩) hle _).setCell (p := ⟨_, _, _⟩) hle _
      case rest =>
        obtain ⟨s, rfl, hs, hbx, hle⟩ := hcut
        have c12 := hs.cell (k := 12) rfl
        have c0 := hs.cell (k := 0) rfl
        have fr := fun k => hs.free k
        have lts := hs.lt
        have E2 := E.past hbx
        have kb0 := E2.kc.cell (k := 0) rfl
        have ub0 := E2.uc.cell (k := 0) rfl
        have cb0 := E2.cc.cell (k := 0) rfl
        gi_step
        gi_step
        obtain ⟨ev, hev⟩ : ∃ ev, errv (erOf o ep (k + 1) (fcode kind user)) = ev := ⟨_, rfl⟩
        have HV := Lib.hid hev
        clear hev
        gi_cut [] from 36 (fun wx => Blk wx s 176 [.bool ep.p, .bool ep.w, .bool ep.u, .bool ep.a, .bool ep.d, .bool ep.ps, .bool ep.nx, .bool ep.bad, .int .i64 (ep.f : Int), .int .i64 ((k : Int) + 1), .int .i64 gi, .int .i64 (ix page (↑k + 1)), ev] ∧ Below wr.heap.size wr wx)
        case first =>
          cases o with
          | none =>
            gi_wp2
            gi_meet
            have h := hs.set 12 (errv (some (3, 0)))
            exact ⟨by rw [← HV.out]; exact h, hbx.setCell (p := ⟨s, 12, none⟩) hle _⟩
          | some v =>
            cases hp : ep.p with
            | false =>
              rw [hp] at c0
              have HPp := Lib.hid hp
              clear hp
              gi_wp2_with fail
              (with_reducible refine wide3 ?_); go_at_call 110
              refine (cd_any _ kb ub kind user false false kb0 ub0).mono ?_
              rintro e w' ⟨rfl, rfl⟩
              gi_wp2
              gi_meet
              have h := hs.set 12 (errv (some (1, fcode kind user false false)))
              refine ⟨?_, hbx.setCell (p := ⟨s, 12, none⟩) hle _⟩
              rw [← HV.out, erOf_np HPp.out]
              exact h
            | true =>
              rw [hp] at c0
              have HPp := Lib.hid hp
              clear hp
              have c0' : wc.cell? ⟨s, 0, none⟩ = some (.bool ep.p) := hs.cell (k := 0) rfl
              have c1 := hs.cell (k := 1) rfl
              have c2 := hs.cell (k := 2) rfl
              have c3 := hs.cell (k := 3) rfl
              have c4 := hs.cell (k := 4) rfl
              have c5 := hs.cell (k := 5) rfl
              have c6 := hs.cell (k := 6) rfl
              have c7 := hs.cell (k := 7) rfl
              have c8 := hs.cell (k := 8) rfl
              have c9 := hs.cell (k := 9) rfl
              have c10 := hs.cell (k := 10) rfl
              have c11 := hs.cell (k := 11) rfl
              have C0 := Lib.hid c0'
              clear c0'
              gi_wp2_with fail
              obtain ⟨bb, hbb⟩ : ∃ bb, badE ep (k + 1) = bb := ⟨_, rfl⟩
              have HBB := Lib.hid hbb
              clear hbb
              (with_reducible refine wide3 ?_); go_at_call 147
              have hbo := bad_open wc ep (k + 1) (↑k + 1) gi (ix page (↑k + 1)) bb rfl HBB.out
              rw [HPp.out] at hbo
              refine hbo.mono ?_
              rintro e w3 ⟨rfl, hb4⟩
              have E3 := E2.past hb4
              have hs3 := hs.past hb4
              clear c0 c1 c2 c3 c4 c5 c6 c7 c8 c9 c10 c11 c12 fr lts kb0 ub0 cb0
              have hbx3 := hbx.trans (hb4.mono hbx.size)
              cases bb with
              | false =>
                gi_wp2_with fail
                gi_meet
                refine ⟨?_, hbx3⟩
                rw [← HV.out, erOf_ok HPp.out HBB.out]
                exact hs3
              | true =>
                have c12 := hs3.cell (k := 12) rfl
                have fr := fun k => hs3.free k
                have lts := hs3.lt
                have kb0 := E3.kc.cell (k := 0) rfl
                have ub0 := E3.uc.cell (k := 0) rfl
                have cb0 := E3.cc.cell (k := 0) rfl
                gi_wp2_with fail
                (with_reducible refine wide3 ?_); go_at_call 110
                refine (cd_any _ kb ub kind user true true kb0 ub0).mono ?_
                rintro e w' ⟨rfl, rfl⟩
                gi_wp2
                gi_meet
                have h := hs3.set 12 (errv (some (1, fcode kind user true true)))
                refine ⟨?_, hbx3.setCell (p := ⟨s, 12, none⟩) hle _⟩
                rw [← HV.out, erOf_bad HPp.out HBB.out]
                exact h
        case rest =>
          obtain ⟨hs', hbx'⟩ := hcut
          clear hs hbx c12 c0 fr lts E2 kb0 ub0 cb0
          have hJ1 : J pre wc := hJ _ _ _ none hJp (grownBy_of_below hbx') (by simp)
          obtain ⟨sp, hsp⟩ : ∃ sp, St.mk ep (k + 1) gi (ix page (↑k + 1)) (erOf o ep (k + 1) (fcode kind user)) = sp := ⟨_, rfl⟩
          have hst : stepAt (rd hosts mem) page (fcode kind user) (k + 1) gi = sp := (stepAt_eq HO.out HE.out).trans hsp
          have hpre : ∃ q, (pre ++ [sp]) ++ q = stepsFrom (rd hosts mem) page (fcode kind user) 3 root := by
            rw [← HP.out]
            cases hc : (sp.er.isSome || lastE sp.e (k + 1)) with
            | true => exact ⟨[], by rw [stepsFrom_end hst hc]; simp⟩
            | false => exact ⟨_, by rw [stepsFrom_on hst hc, List.append_assoc]; rfl⟩
          have hen : sp.enc = #[.agg #[.bool ep.p, .bool ep.w, .bool ep.u, .bool ep.a, .bool ep.d, .bool ep.ps, .bool ep.nx, .bool ep.bad, .int .i64 (ep.f : Int), .int .i64 ((k : Int) + 1), .int .i64 gi, .int .i64 (ix page (↑k + 1)), ev]] := by
            rw [← hsp, ← HV.out]; rfl
          obtain ⟨fn, tmps, assign, body, hy, hR⟩ := hY pre sp wc hJ1 (by have := HL.out; omega)
          rw [hen] at hy
          have HS := Lib.hid hsp
          have HT := Lib.hid hst
          have HQ := Lib.hid hpre
          have HB := Lib.hid hbx'
          clear hen hsp hst hpre hbx'
          have c0 := hs'.cell (k := 0) rfl
          have c1 := hs'.cell (k := 1) rfl
          have c2 := hs'.cell (k := 2) rfl
          have c3 := hs'.cell (k := 3) rfl
          have c4 := hs'.cell (k := 4) rfl
          have c5 := hs'.cell (k := 5) rfl
          have c6 := hs'.cell (k := 6) rfl
          have c7 := hs'.cell (k := 7) rfl
          have c8 := hs'.cell (k := 8) rfl
          have c9 := hs'.cell (k := 9) rfl
          have c10 := hs'.cell (k := 10) rfl
          have c11 := hs'.cell (k := 11) rfl
          have c12 := hs'.cell (k := 12) rfl
          gi_wp2
          refine ⟨fun _ => by omega, hR.mono ?_⟩
          clear hy hR c0 c1 c2 c3 c4 c5 c6 c7 c8 c9 c10 c11 c12
          rintro e W' (⟨rfl, hJ', hk'⟩ | ⟨rfl, hJx'⟩)
          · have hs2 := hs'.keepT hk' (by decide) (hSn' s (Nat.le_trans hK.size hle))
            cases he : erOf o ep (k + 1) (fcode kind user) with
            | some hc =>
              obtain ⟨h, c⟩ := hc
              have hev : ev = .iface 114 (.agg #[.int .i64 h, .int .i64 c]) := by rw [← HV.out, he]; rfl
              have c12 := hs2.cell (k := 12) rfl
              rw [hev] at c12
              have HEr := Lib.hid he
              clear he hev hs' hs2
              gi_wp2
              refine ⟨trivial, ?_⟩
              gi_wp2
              refine bodyPost_ret (results_none rfl _ _ _) rfl ?_
              refine ⟨⟨_, rfl⟩, .inl ⟨pre ++ [sp], ?_, hJ'⟩⟩
              rw [← HP.out, stepsFrom_end HT.out (by rw [← HS.out]; simp [HEr.out])]
            | none =>
              have hev : ev = .nilIface := by rw [← HV.out, he]; rfl
              subst hev
              have c0 := hs2.cell (k := 0) rfl
              have c1 := hs2.cell (k := 1) rfl
              have c2 := hs2.cell (k := 2) rfl
              have c3 := hs2.cell (k := 3) rfl
              have c4 := hs2.cell (k := 4) rfl
              have c5 := hs2.cell (k := 5) rfl
              have c6 := hs2.cell (k := 6) rfl
              have c7 := hs2.cell (k := 7) rfl
              have c8 := hs2.cell (k := 8) rfl
              have c9 := hs2.cell (k := 9) rfl
              have c10 := hs2.cell (k := 10) rfl
              have c11 := hs2.cell (k := 11) rfl
              have c12 := hs2.cell (k := 12) rfl
              have HEr := Lib.hid he
              clear he
              obtain ⟨lb, hlb⟩ : ∃ lb, lastE ep (k + 1) = lb := ⟨_, rfl⟩
              have HLB := Lib.hid hlb
              clear hlb
              gi_wp2_with fail
              (with_reducible refine wide3 ?_); go_at_call 148
              have hlo := last_open W' ep (k + 1) (↑k + 1) gi (ix page (↑k + 1)) lb rfl HLB.out
              refine hlo.mono ?_
              rintro e w5 ⟨rfl, hb5⟩
              have hJ5 : J (pre ++ [sp]) w5 := hJ _ _ _ none hJ' (grownBy_of_below hb5) (by simp)
              have hs5 := hs2.past hb5
              clear hs' hs2 c0 c1 c2 c3 c4 c5 c6 c7 c8 c9 c10 c11 c12
              cases lb with
              | true =>
                gi_wp2
                refine bodyPost_ret (results_none rfl _ _ _) rfl ?_
                refine ⟨⟨_, rfl⟩, .inl ⟨pre ++ [sp], ?_, hJ5⟩⟩
                rw [← HP.out, stepsFrom_end HT.out (by rw [← HS.out]; simp [HLB.out])]
              | false =>
                have c8 := hs5.cell (k := 8) rfl
                gi_wp2
                go_roundw
                case rel =>
                  refine ⟨k, (ep.f : Int), pre ++ [sp], by omega, by go_num, rfl, ?_, by have := HL.out; simp; omega, hJ5, ?_⟩
                  · rw [← HP.out, stepsFrom_on HT.out (by rw [← HS.out]; simp [HLB.out, HEr.out]), List.append_assoc, ← HS.out]; rfl
                  · exact ((hK.trans (KeepT.of_below HB.out)).trans hk').trans (KeepT.of_below hb5)
                case measure => simp [intOf]
          · gi_wp2
            refine ⟨trivial, ?_⟩
            gi_wp2
            refine bodyPost_ret (results_none rfl _ _ _) rfl ?_
            exact ⟨⟨_, rfl⟩, .inr ⟨pre ++ [sp], HQ.out, hJx'⟩⟩
end Go.Proofs.YtgaififhhffpfaaGreatDoor
