/- Layers 14 and 16 as numbers and lists: shadow pages in frames, and what keeps them as the guest's tables say. No program stands here. What calls leave of shadow pages' slots, keys and frames: plain laws of layers 14 and 16. What is so of a guard's tables whatever is done, and what its calls leave of slots: plain laws of layer 16. -/
import Derived.Test.YtglohconhbcchaaGreatDoorTlb2
import Derived.Test.YtglohconhbcchaaGreatDoorBlk
import Derived.Test.YtglohconhbcchaaGreatDoorFind
namespace Go.Proofs.YtglohconhbcchaaGreatDoor

structure Key where
  g : Int
  lv : Int
  ro : Int
  deriving DecidableEq
structure Slt where
  kind : Int
  dst : Int
  r : Rt
  deriving DecidableEq
def slt0 : Slt := ⟨0, 0, ⟨false, false, false⟩⟩
structure Pg where
  f : Int
  k : Key
  s : List Slt
  deriving DecidableEq
def pg0 : Pg := ⟨0, ⟨0, 0, 0⟩, []⟩
/-- what does not turn: the host's frames, the guest's frames' places, the shadow pages' frames, the TLB's size -/
structure Pm where
  n : Nat
  hosts : List Nat
  first : Nat
  many : Nat
  most : Nat
/-- the host's words, the shadow pages, and which frames are free -/
structure SS where
  mem : List Nat
  ps : List Pg
  fresh : Nat
  back : List Int

def spage (ps : List Pg) (f : Int) : Option Pg := ps.find? fun p => decide (p.f = f)
def skey (ps : List Pg) (f : Int) : Option Key := (spage ps f).map Pg.k
def sfind (ps : List Pg) (k : Key) : Option Int := (ps.find? fun p => decide (p.k = k)).map Pg.f
def sall (ps : List Pg) : List Int := ps.map Pg.f
def ofB (g : Int) (k : Key) : Bool := decide (k.ro = 0) && decide (k.g = g)
def sof (ps : List Pg) (g : Int) : List Int := (ps.filter fun p => ofB g p.k).map Pg.f
def pslot (p : Pg) (i : Int) : Option Slt := if 0 ≤ i ∧ i < 8 then p.s[i.toNat]? else none
def sslot (ps : List Pg) (f i : Int) : Option Slt := (spage ps f).bind fun p => pslot p i
def toldB (kind dst : Int) (x : Slt) : Bool := decide (x.kind = kind) && decide (x.dst = dst)
def ptold (kind dst : Int) (p : Pg) : List (Int × Int) := ((List.range 8).filter fun (i : Nat) => toldB kind dst (p.s.getD i slt0)).map fun (i : Nat) => (p.f, (i : Int))
def stold (ps : List Pg) (kind dst : Int) : List (Int × Int) := ps.flatMap (ptold kind dst)
def kright (k : Key) : Bool := decide (1 ≤ k.lv) && decide (k.lv ≤ 3) && decide (0 ≤ k.ro) && decide (k.ro ≤ 2) && (decide (k.ro = 0) || decide (k.lv = 1))
def pteV (dst : Int) (r : Rt) : Nat := if 0 ≤ dst ∧ dst < 1048576 then dst.toNat * 4096 + 1 + (if r.w then 2 else 0) + (if r.u then 4 else 0) + (if r.x then 0 else 9223372036854775808) else 0
def slotV (x : Slt) (dst : Int) : Nat := if x.kind = 0 then 0 else pteV dst x.r
def setP (f : Int) (i : Nat) (x : Slt) (p : Pg) : Pg := if p.f = f then { p with s := p.s.set i x } else p
def setS (ps : List Pg) (f : Int) (i : Nat) (x : Slt) : List Pg := ps.map (setP f i x)
def sput (S : SS) (f i : Int) (x : Slt) (dst : Int) : SS := { S with mem := S.mem.set (f.toNat * 8 + i.toNat) (slotV x dst), ps := setS S.ps f i.toNat x }
def sclear (S : SS) (f i : Int) : Bool × SS := match sslot S.ps f i with
  | some x => if x.kind = 0 then (false, S) else (true, sput S f i slt0 0)
  | none => (false, S)
def schild (S : SS) (f i c : Int) (r : Rt) : Bool × SS := match sslot S.ps f i, skey S.ps c with
  | some _, some kc => if kc.lv = ((skey S.ps f).getD ⟨0, 0, 0⟩).lv - 1 then (true, sput S f i ⟨1, c, r⟩ c) else (false, S)
  | _, _ => (false, S)
def sleaf (n : Nat) (S : SS) (f i g h : Int) (r : Rt) : Bool × SS := match sslot S.ps f i with
  | some _ => if ((skey S.ps f).getD ⟨0, 0, 0⟩).lv = 1 ∧ 0 ≤ h ∧ h < n then (true, sput S f i ⟨2, g, r⟩ h) else (false, S)
  | none => (false, S)
def zero8 (mem : List Nat) (f : Nat) : List Nat := (List.range 8).foldl (fun m i => m.set (f * 8 + i) 0) mem
def smade (S : SS) (k : Key) (f : Int) (fresh : Nat) (back : List Int) : SS := ⟨zero8 S.mem f.toNat, S.ps ++ [⟨f, k, List.replicate 8 slt0⟩], fresh, back⟩
def stake (P : Pm) (S : SS) : Option (Int × Nat × List Int) := match S.back.getLast? with
  | some f => some (f, S.fresh, S.back.dropLast)
  | none => if S.fresh < P.many then some ((P.first : Int) + S.fresh, S.fresh + 1, []) else none
def smake (P : Pm) (S : SS) (k : Key) : Option (Int × SS) :=
  if (sfind S.ps k).isSome || !kright k then none else (stake P S).map fun t => (t.1, smade S k t.1 t.2.1 t.2.2)
def sdrop (S : SS) (f : Int) : Bool × SS := match spage S.ps f with
  | none => (false, S)
  | some _ =>
    let S1 := (stold S.ps 1 f).foldl (fun S a => (sclear S a.1 a.2).2) S
    let S2 := (List.range 8).foldl (fun S (i : Nat) => (sclear S f (i : Int)).2) S1
    (true, { S2 with ps := S2.ps.filter fun p => !decide (p.f = f), back := S2.back ++ [f] })

/-- .. with the TLB's hits, and the loose frames -/
structure GS where
  s : SS
  l : List Hit
  loose : List Int
def ghost (P : Pm) (g : Int) : Option Nat := if 0 ≤ g ∧ g < P.hosts.length then P.hosts[g.toNat]? else none
def gzap (G : GS) (p i : Int) : Bool × GS := let r := sclear G.s p i; (r.1, if r.1 then ⟨r.2, [], G.loose⟩ else G)
def gword (G : GS) (g i : Int) : GS := (sof G.s.ps g).foldl (fun G p => (gzap G p i).2) G
def forbid1 (P : Pm) (g : Int) (G : GS) (a : Int × Int) : GS :=
  let x := (sslot G.s.ps a.1 a.2).getD slt0
  if x.r.w then ⟨(sleaf P.n G.s a.1 a.2 g (((ghost P g).getD 0 : Nat) : Int) ⟨false, x.r.u, x.r.x⟩).2, [], G.loose⟩ else G
def gforbid (P : Pm) (G : GS) (g : Int) : GS := (stold G.s.ps 2 g).foldl (forbid1 P g) G
def gtight (G : GS) (g : Int) : GS := { G with loose := G.loose.filter fun l => !decide (l = g) }
def agrees (x : Slt) (e : Pte) : Bool := e.p && e.a && !e.bad && !e.ps && decide ((e.f : Int) = x.dst) && (e.u == x.r.u) && !(e.nx == x.r.x) && (!x.r.w || (e.w && e.d))
def look1 (P : Pm) (g p : Int) (G : GS) (i : Nat) : GS :=
  let x := (sslot G.s.ps p (i : Int)).getD slt0
  if x.kind = 2 ∧ agrees x (pte ((rd P.hosts G.s.mem g (i : Int)).getD 0)) = false then { G with s := (sclear G.s p (i : Int)).2 } else G
def lookP (P : Pm) (g : Int) (G : GS) (p : Int) : GS := (List.range 8).foldl (look1 P g p) G
def glook (P : Pm) (G : GS) (g : Int) : Bool × GS :=
  if G.loose.contains g then
    let G1 := gforbid P (gtight G g) g
    (true, { (sof G1.s.ps g).foldl (lookP P g) G1 with l := [] })
  else (false, G)
def gall (P : Pm) (G : GS) : GS := G.loose.foldl (fun G g => (glook P G g).2) G
def gmake1 (P : Pm) (G : GS) (k : Key) : GS := if k.ro = 0 then (glook P G k.g).2 else G
def gmake (P : Pm) (G : GS) (k : Key) : Option Int × GS := match sfind G.s.ps k with
  | some p => (some p, G)
  | none =>
    let G1 := gmake1 P G k
    match smake P G1.s k with
    | none => (none, G1)
    | some (p, S) => (some p, if k.ro = 0 then gforbid P { G1 with s := S } k.g else { G1 with s := S })
def gdrop (G : GS) (p : Int) : Bool × GS := match skey G.s.ps p with
  | none => (false, G)
  | some k =>
    let G1 := if k.ro = 0 then gtight G k.g else G
    (true, ⟨(sdrop G1.s p).2, [], G1.loose⟩)
def loosens (G : GS) (g : Int) : Bool := match sof G.s.ps g with
  | [p] => !G.loose.contains g && (match stold G.s.ps 1 p with
    | [u] => decide (((skey G.s.ps p).getD ⟨0, 0, 0⟩).lv = 1) && decide ((stold G.s.ps 1 u.1).length = 1)
    | _ => false)
  | _ => false
def gloosen (G : GS) (g : Int) : Bool × GS := if loosens G g then (true, { G with loose := G.loose ++ [g] }) else (false, G)
def gprot (G : GS) (g : Int) : Bool := decide (0 < (sof G.s.ps g).length) && !G.loose.contains g
def kids (ps : List Pg) (p : Int) : List (Int × Int) := (List.range 8).filterMap fun (i : Nat) => let x := (sslot ps p (i : Int)).getD slt0; if x.kind = 1 then some ((i : Int), x.dst) else none
def span (a n : Nat) : List Int := (List.range n).map fun i => ((a + i : Nat) : Int)
def reachL (p : Int) (i a : Nat) (b : Int × Int) : List Int := if b.2 = p then span ((a * 8 + b.1.toNat) * 8 + i) 1 else []
def reachM (ps : List Pg) (p : Int) (i : Nat) (a : Int × Int) : List Int := (if a.2 = p then span ((a.1.toNat * 8 + i) * 8) 8 else []) ++ (kids ps a.2).flatMap (reachL p i a.1.toNat)
def greach (ps : List Pg) (root p i : Int) : List Int := match sfind ps ⟨root, 3, 0⟩ with
  | none => []
  | some top => if 0 ≤ i ∧ i < 8 then (if p = top then span (i.toNat * 64) 64 else []) ++ (kids ps top).flatMap (reachM ps p i.toNat) else []

/-- what is so of shadow pages, and their frames, whatever is done -/
structure SInv (P : Pm) (S : SS) : Prop where
  len : S.mem.length = 8 * P.n
  sl : ∀ p, p ∈ S.ps → p.s.length = 8
  pos : ∀ p, p ∈ S.ps → (P.first : Int) ≤ p.f ∧ p.f < (P.first : Int) + S.fresh
  bpos : ∀ b, b ∈ S.back → (P.first : Int) ≤ b ∧ b < (P.first : Int) + S.fresh
  nd : (S.ps.map Pg.f ++ S.back).Nodup
  fr : S.fresh ≤ P.many
  cnt : S.ps.length + S.back.length = S.fresh
  top : P.first + P.many ≤ P.n
  small : P.n ≤ 256
  kr : ∀ p, p ∈ S.ps → kright p.k = true

theorem find_f {ps : List Pg} (h : (ps.map Pg.f).Nodup) {p : Pg} (hp : p ∈ ps) : spage ps p.f = some p := by
  induction ps with
  | nil => simp at hp
  | cons a r ih =>
    simp only [List.map_cons, List.nodup_cons] at h
    unfold spage
    rcases List.mem_cons.1 hp with rfl | hp
    · simp
    · have hne : a.f ≠ p.f := fun e => h.1 (e ▸ List.mem_map_of_mem hp)
      simp only [List.find?_cons, hne, decide_false]
      exact ih h.2 hp
theorem spage_some {ps : List Pg} {f : Int} {p : Pg} (h : spage ps f = some p) : p ∈ ps ∧ p.f = f :=
  ⟨List.mem_of_find?_eq_some h, by simpa using List.find?_some h⟩
theorem SInv.ndf {P : Pm} {S : SS} (h : SInv P S) : (S.ps.map Pg.f).Nodup := (List.nodup_append.1 h.nd).1
theorem setP_f (f : Int) (i : Nat) (x : Slt) (p : Pg) : (setP f i x p).f = p.f := by unfold setP; split <;> rfl
theorem setP_k (f : Int) (i : Nat) (x : Slt) (p : Pg) : (setP f i x p).k = p.k := by unfold setP; split <;> rfl
theorem setS_f (ps : List Pg) (f : Int) (i : Nat) (x : Slt) : (setS ps f i x).map Pg.f = ps.map Pg.f := by
  unfold setS; rw [List.map_map]; exact List.map_congr_left fun p _ => setP_f f i x p
theorem setS_len (ps : List Pg) (f : Int) (i : Nat) (x : Slt) : (setS ps f i x).length = ps.length := by unfold setS; simp
theorem find_map {α : Type} (q : α → Bool) (t : α → α) (h : ∀ a, q (t a) = q a) : ∀ l : List α, (l.map t).find? q = (l.find? q).map t
  | [] => rfl
  | a :: r => by
    simp only [List.map_cons, List.find?_cons, h a]
    cases q a <;> simp [find_map q t h r]
theorem spage_setS (ps : List Pg) (f : Int) (i : Nat) (x : Slt) (f' : Int) : spage (setS ps f i x) f' = (spage ps f').map (setP f i x) := by
  unfold spage setS
  exact find_map _ _ (fun p => by rw [setP_f]) ps
theorem skey_setS (ps : List Pg) (f : Int) (i : Nat) (x : Slt) (f' : Int) : skey (setS ps f i x) f' = skey ps f' := by
  unfold skey
  rw [spage_setS]
  cases spage ps f' with
  | none => rfl
  | some p => simp [setP_k]
theorem sfind_setS (ps : List Pg) (f : Int) (i : Nat) (x : Slt) (k : Key) : sfind (setS ps f i x) k = sfind ps k := by
  unfold sfind setS
  rw [find_map _ _ (fun p => by rw [setP_k])]
  cases ps.find? _ with
  | none => rfl
  | some p => simp [setP_f]
theorem sof_setS (ps : List Pg) (f : Int) (i : Nat) (x : Slt) (g : Int) : sof (setS ps f i x) g = sof ps g := by
  unfold sof setS
  rw [List.filter_map, List.map_map]
  have : ((fun p => ofB g p.k) ∘ setP f i x) = fun p => ofB g p.k := funext fun p => by simp [setP_k]
  rw [this]
  exact List.map_congr_left fun p _ => setP_f f i x p
theorem sall_setS (ps : List Pg) (f : Int) (i : Nat) (x : Slt) : sall (setS ps f i x) = sall ps := setS_f ps f i x
/-- a slot behind a put -/
theorem sslot_setS {ps : List Pg} (hl : ∀ p, p ∈ ps → p.s.length = 8) (f i : Int) (x : Slt) (hi : 0 ≤ i ∧ i < 8) (f' j : Int) :
    sslot (setS ps f i.toNat x) f' j = if f' = f ∧ j = i then (sslot ps f' j).map (fun _ => x) else sslot ps f' j := by
  unfold sslot
  rw [spage_setS]
  cases hp : spage ps f' with
  | none => simp
  | some p =>
    obtain ⟨hm, hf⟩ := spage_some hp
    have h8 := hl p hm
    simp only [Option.map_some, Option.bind_some]
    unfold pslot setP
    by_cases hj : 0 ≤ j ∧ j < 8
    · simp only [if_pos hj]
      rw [hf]
      by_cases hff : f' = f
      · simp only [hff, if_true, true_and]
        by_cases hji : j = i
        · subst hji
          have : j.toNat < p.s.length := by omega
          simp [List.getElem?_set, List.getElem?_eq_getElem this]; omega
        · have : i.toNat ≠ j.toNat := by omega
          simp [List.getElem?_set_ne this, hji]
      · simp [hff]
    · simp only [if_neg hj]
      split <;> simp
theorem sput_inv {P : Pm} {S : SS} (h : SInv P S) (f i : Int) (x : Slt) (dst : Int) : SInv P (sput S f i x dst) := by
  refine ⟨by simp [sput, h.len], fun p hp => ?_, fun p hp => ?_, h.bpos, ?_, h.fr, ?_, h.top, h.small, fun p hp => ?_⟩
  · simp only [sput, setS, List.mem_map] at hp
    obtain ⟨q, hq, rfl⟩ := hp
    unfold setP; split
    · simp [h.sl q hq]
    · exact h.sl q hq
  · simp only [sput, setS, List.mem_map] at hp
    obtain ⟨q, hq, rfl⟩ := hp
    rw [setP_f]; exact h.pos q hq
  · show ((setS S.ps f i.toNat x).map Pg.f ++ S.back).Nodup
    rw [setS_f]; exact h.nd
  · show (setS S.ps f i.toNat x).length + S.back.length = S.fresh
    rw [setS_len]; exact h.cnt
  · simp only [sput, setS, List.mem_map] at hp
    obtain ⟨q, hq, rfl⟩ := hp
    rw [setP_k]; exact h.kr q hq
theorem sclear_inv {P : Pm} {S : SS} (h : SInv P S) (f i : Int) : SInv P (sclear S f i).2 := by
  unfold sclear
  split
  · split
    · exact h
    · exact sput_inv h _ _ _ _
  · exact h
theorem schild_inv {P : Pm} {S : SS} (h : SInv P S) (f i c : Int) (r : Rt) : SInv P (schild S f i c r).2 := by
  unfold schild
  split
  · split
    · exact sput_inv h _ _ _ _
    · exact h
  · exact h
theorem sleaf_inv {P : Pm} {S : SS} (h : SInv P S) (f i g k : Int) (r : Rt) : SInv P (sleaf P.n S f i g k r).2 := by
  unfold sleaf
  split
  · split
    · exact sput_inv h _ _ _ _
    · exact h
  · exact h
theorem zero8_len (mem : List Nat) (f : Nat) : (zero8 mem f).length = mem.length := by simp [zero8, List.range, List.range.loop]
theorem stake_forms {P : Pm} {S : SS} (h : SInv P S) {f : Int} {n : Nat} {b : List Int} (ht : stake P S = some (f, n, b)) :
    (∀ k, kright k = true → SInv P (smade S k f n b)) ∧ (P.first : Int) ≤ f ∧ f < P.first + P.many ∧ ∀ p, p ∈ S.ps → p.f ≠ f := by
  have hl := h.fr
  unfold stake at ht
  cases hb : S.back.getLast? with
  | some y =>
    rw [hb] at ht
    simp only [Option.some.injEq, Prod.mk.injEq] at ht
    obtain ⟨rfl, rfl, rfl⟩ := ht
    obtain ⟨ini, hini⟩ := List.getLast?_eq_some_iff.1 hb
    have hnd := h.nd
    rw [hini] at hnd
    have hyb : y ∈ S.back := by rw [hini]; simp
    have hy := h.bpos y hyb
    have hno : ∀ p, p ∈ S.ps → p.f ≠ y := fun p hp e => by
      have := (List.nodup_append.1 h.nd).2.2 p.f (List.mem_map_of_mem hp) y hyb
      exact this e
    refine ⟨fun k hkr => ⟨by simp [smade, zero8_len, h.len], ?_, ?_, ?_, ?_, h.fr, ?_, h.top, h.small, ?_⟩, hy.1, by omega, hno⟩
    · intro p hp
      simp only [smade, List.mem_append, List.mem_singleton] at hp
      rcases hp with hp | rfl
      · exact h.sl p hp
      · simp
    · intro p hp
      simp only [smade, List.mem_append, List.mem_singleton] at hp
      rcases hp with hp | rfl
      · exact h.pos p hp
      · exact hy
    · intro b hb'
      refine h.bpos b ?_
      simp only [smade] at hb'
      exact (List.dropLast_sublist _).mem hb'
    · simp only [smade, hini, List.dropLast_concat, List.map_append, List.map_cons, List.map_nil, List.append_assoc]
      have : (S.ps.map Pg.f ++ (ini ++ [y])).Perm (S.ps.map Pg.f ++ ([y] ++ ini)) := List.Perm.append_left _ List.perm_append_comm
      exact this.nodup_iff.1 hnd
    · simp only [smade, List.length_append, List.length_cons, List.length_nil, List.length_dropLast]
      have := h.cnt
      rw [hini] at this ⊢
      simp only [List.length_append, List.length_cons, List.length_nil] at this ⊢
      omega
    · intro p hp
      simp only [smade, List.mem_append, List.mem_singleton] at hp
      rcases hp with hp | rfl
      · exact h.kr p hp
      · exact hkr
  | none =>
    rw [hb] at ht
    have hbn : S.back = [] := List.getLast?_eq_none_iff.1 hb
    simp only at ht
    split at ht
    · rename_i hlt
      simp only [Option.some.injEq, Prod.mk.injEq] at ht
      obtain ⟨rfl, rfl, rfl⟩ := ht
      have hno : ∀ p, p ∈ S.ps → p.f ≠ (P.first : Int) + S.fresh := fun p hp e => by have := h.pos p hp; omega
      refine ⟨fun k hkr => ⟨by simp [smade, zero8_len, h.len], ?_, ?_, by simp [smade], ?_, by simp [smade]; omega, ?_, h.top, h.small, ?_⟩, by omega, by omega, hno⟩
      · intro p hp
        simp only [smade, List.mem_append, List.mem_singleton] at hp
        rcases hp with hp | rfl
        · exact h.sl p hp
        · simp
      · intro p hp
        simp only [smade, List.mem_append, List.mem_singleton] at hp ⊢
        rcases hp with hp | rfl
        · have := h.pos p hp; omega
        · dsimp only; omega
      · simp only [smade, List.map_append, List.map_cons, List.map_nil, List.append_nil]
        refine List.nodup_append.2 ⟨h.ndf, by simp, ?_⟩
        intro a ha b hb' e
        simp only [List.mem_singleton] at hb'
        obtain ⟨p, hp, rfl⟩ := List.mem_map.1 ha
        exact hno p hp (e.trans hb')
      · have := h.cnt
        rw [hbn] at this
        simp only [smade, List.length_append, List.length_cons, List.length_nil] at this ⊢
        omega
      · intro p hp
        simp only [smade, List.mem_append, List.mem_singleton] at hp
        rcases hp with hp | rfl
        · exact h.kr p hp
        · exact hkr
    · simp at ht
theorem smake_inv {P : Pm} {S S' : SS} {k : Key} {f : Int} (h : SInv P S) (hm : smake P S k = some (f, S')) : SInv P S' := by
  unfold smake at hm
  split at hm
  · simp at hm
  · rename_i hc
    simp only [Bool.or_eq_true, Bool.not_eq_true', not_or, Bool.not_eq_false] at hc
    cases ht : stake P S with
    | none => rw [ht] at hm; simp at hm
    | some t =>
      rw [ht] at hm
      simp only [Option.map_some, Option.some.injEq, Prod.mk.injEq] at hm
      obtain ⟨_, rfl⟩ := hm
      exact (stake_forms h ht).1 k hc.2
theorem foldl_keep {α β : Type} (Q : β → Prop) (f : β → α → β) (h : ∀ b a, Q b → Q (f b a)) : ∀ (l : List α) (b : β), Q b → Q (l.foldl f b)
  | [], _, hb => hb
  | a :: r, b, hb => foldl_keep Q f h r (f b a) (h b a hb)
theorem sclear_fs (S : SS) (f i : Int) : (sclear S f i).2.ps.map Pg.f = S.ps.map Pg.f ∧ (sclear S f i).2.fresh = S.fresh ∧ (sclear S f i).2.back = S.back := by
  unfold sclear
  split
  · split
    · exact ⟨rfl, rfl, rfl⟩
    · exact ⟨setS_f _ _ _ _, rfl, rfl⟩
  · exact ⟨rfl, rfl, rfl⟩
theorem nodup_split {ps : List Pg} {f : Int} (hn : (ps.map Pg.f).Nodup) {p : Pg} (hp : p ∈ ps) (hf : p.f = f) : (ps.filter fun q => !decide (q.f = f)).length + 1 = ps.length ∧ (ps.map Pg.f).Perm ((ps.filter fun q => !decide (q.f = f)).map Pg.f ++ [f]) := by
  induction ps with
  | nil => simp at hp
  | cons a r ih =>
    simp only [List.map_cons, List.nodup_cons] at hn
    rcases List.mem_cons.1 hp with rfl | hp
    · have hr : r.filter (fun q => !decide (q.f = f)) = r := List.filter_eq_self.2 fun q hq => by
        have : q.f ≠ f := fun e => hn.1 (hf ▸ e ▸ List.mem_map_of_mem hq)
        simp [this]
      simp only [List.filter_cons, hf, decide_true, Bool.not_true, Bool.false_eq_true, if_false, hr, List.map_cons, List.length_cons]
      exact ⟨trivial, List.perm_append_comm (l₁ := [f])⟩
    · have hne : a.f ≠ f := fun e => hn.1 (by rw [e, ← hf]; exact List.mem_map_of_mem hp)
      obtain ⟨h1, h2⟩ := ih hn.2 hp
      simp only [List.filter_cons, hne, decide_false, Bool.not_false, if_true, List.map_cons, List.length_cons, List.cons_append]
      exact ⟨by omega, h2.cons _⟩
theorem sdrop_inv {P : Pm} {S : SS} (h : SInv P S) (f : Int) : SInv P (sdrop S f).2 := by
  unfold sdrop
  cases hp : spage S.ps f with
  | none => exact h
  | some p =>
    simp only
    have k1 := foldl_keep (fun T : SS => SInv P T ∧ T.ps.map Pg.f = S.ps.map Pg.f ∧ T.fresh = S.fresh ∧ T.back = S.back) (fun S a => (sclear S a.1 a.2).2) (fun T (a : Int × Int) hT => by
      obtain ⟨x1, x2, x3⟩ := sclear_fs T a.1 a.2
      exact ⟨sclear_inv hT.1 _ _, x1.trans hT.2.1, x2.trans hT.2.2.1, x3.trans hT.2.2.2⟩) (stold S.ps 1 f) S ⟨h, rfl, rfl, rfl⟩
    obtain ⟨S1, hS1⟩ : ∃ S1, (stold S.ps 1 f).foldl (fun S a => (sclear S a.1 a.2).2) S = S1 := ⟨_, rfl⟩
    rw [hS1] at k1 ⊢
    have k2 := foldl_keep (fun T : SS => SInv P T ∧ T.ps.map Pg.f = S.ps.map Pg.f ∧ T.fresh = S.fresh ∧ T.back = S.back) (fun S (i : Nat) => (sclear S f (i : Int)).2) (fun T (a : Nat) hT => by
      obtain ⟨x1, x2, x3⟩ := sclear_fs T f (a : Int)
      exact ⟨sclear_inv hT.1 _ _, x1.trans hT.2.1, x2.trans hT.2.2.1, x3.trans hT.2.2.2⟩) (List.range 8) S1 k1
    obtain ⟨S2, hS2⟩ : ∃ S2, (List.range 8).foldl (fun S (i : Nat) => (sclear S f (i : Int)).2) S1 = S2 := ⟨_, rfl⟩
    rw [hS2] at k2 ⊢
    obtain ⟨i2, e1, e2, e3⟩ := k2
    obtain ⟨hm, hf⟩ := spage_some hp
    obtain ⟨q, hq, hqf⟩ : ∃ q, q ∈ S2.ps ∧ q.f = f := by
      have : f ∈ S2.ps.map Pg.f := by rw [e1, ← hf]; exact List.mem_map_of_mem hm
      obtain ⟨q, hq, e⟩ := List.mem_map.1 this
      exact ⟨q, hq, e⟩
    obtain ⟨n1, n2⟩ := nodup_split i2.ndf hq hqf
    have hq2 := i2.pos q hq
    refine ⟨i2.len, fun p hp => i2.sl p ((List.mem_filter.1 hp).1), fun p hp => i2.pos p ((List.mem_filter.1 hp).1), ?_, ?_, i2.fr, ?_, i2.top, i2.small, fun p hp => i2.kr p ((List.mem_filter.1 hp).1)⟩
    · intro b hb
      simp only [List.mem_append, List.mem_singleton] at hb
      rcases hb with hb | rfl
      · exact i2.bpos b hb
      · rw [← hqf]; exact hq2
    · have hn := i2.nd
      have : (S2.ps.map Pg.f ++ S2.back).Perm ((S2.ps.filter fun p => !decide (p.f = f)).map Pg.f ++ (S2.back ++ [f])) := by
        refine (n2.append_right _).trans ?_
        rw [List.append_assoc]
        exact List.Perm.append_left _ List.perm_append_comm
      exact this.nodup_iff.1 hn
    · simp only [List.length_append, List.length_cons, List.length_nil]
      have := i2.cnt
      omega
end Go.Proofs.YtglohconhbcchaaGreatDoor

namespace Go.Proofs.YtglohconhbcchaaGreatDoor

/-- keys and frames are as they were -/
structure SameK (S S' : SS) : Prop where
  key : ∀ f, skey S'.ps f = skey S.ps f
  find : ∀ k, sfind S'.ps k = sfind S.ps k
  of : ∀ g, sof S'.ps g = sof S.ps g
  all : sall S'.ps = sall S.ps
  keys : S'.ps.map Pg.k = S.ps.map Pg.k
  fresh : S'.fresh = S.fresh
  back : S'.back = S.back
theorem SameK.refl (S : SS) : SameK S S := ⟨fun _ => rfl, fun _ => rfl, fun _ => rfl, rfl, rfl, rfl, rfl⟩
theorem SameK.trans {a b c : SS} (h : SameK a b) (k : SameK b c) : SameK a c :=
  ⟨fun f => (k.key f).trans (h.key f), fun f => (k.find f).trans (h.find f), fun f => (k.of f).trans (h.of f), k.all.trans h.all, k.keys.trans h.keys, k.fresh.trans h.fresh, k.back.trans h.back⟩
theorem setS_k (ps : List Pg) (f : Int) (i : Nat) (x : Slt) : (setS ps f i x).map Pg.k = ps.map Pg.k := by
  unfold setS; rw [List.map_map]; exact List.map_congr_left fun p _ => setP_k f i x p
theorem SameK.put (S : SS) (f i : Int) (x : Slt) (dst : Int) : SameK S (sput S f i x dst) :=
  ⟨fun _ => skey_setS _ _ _ _ _, fun _ => sfind_setS _ _ _ _ _, fun _ => sof_setS _ _ _ _ _, sall_setS _ _ _ _, setS_k _ _ _ _, rfl, rfl⟩
theorem SameK.clear (S : SS) (f i : Int) : SameK S (sclear S f i).2 := by
  unfold sclear
  split
  · split
    · exact SameK.refl _
    · exact SameK.put _ _ _ _ _
  · exact SameK.refl _
theorem SameK.child (S : SS) (f i c : Int) (r : Rt) : SameK S (schild S f i c r).2 := by
  unfold schild
  split
  · split
    · exact SameK.put _ _ _ _ _
    · exact SameK.refl _
  · exact SameK.refl _
theorem SameK.leaf (n : Nat) (S : SS) (f i g h : Int) (r : Rt) : SameK S (sleaf n S f i g h r).2 := by
  unfold sleaf
  split
  · split
    · exact SameK.put _ _ _ _ _
    · exact SameK.refl _
  · exact SameK.refl _

theorem pslot_some {p : Pg} {i : Int} {x : Slt} (h : pslot p i = some x) : (0 ≤ i ∧ i < 8) ∧ p.s[i.toNat]? = some x := by
  unfold pslot at h
  split at h
  · exact ⟨by assumption, h⟩
  · simp at h
theorem sslot_some {ps : List Pg} {f i : Int} {x : Slt} (h : sslot ps f i = some x) : (0 ≤ i ∧ i < 8) ∧ ∃ p, p ∈ ps ∧ p.f = f ∧ spage ps f = some p ∧ p.s[i.toNat]? = some x := by
  unfold sslot at h
  cases hp : spage ps f with
  | none => rw [hp] at h; simp at h
  | some p =>
    rw [hp] at h
    obtain ⟨h1, h2⟩ := pslot_some h
    obtain ⟨hm, hf⟩ := spage_some hp
    exact ⟨h1, p, hm, hf, rfl, h2⟩
theorem sslot_of {P : Pm} {S : SS} (hS : SInv P S) {p : Pg} (hp : p ∈ S.ps) (i : Nat) (hi : i < 8) : sslot S.ps p.f (i : Int) = some (p.s.getD i slt0) := by
  have h8 := hS.sl p hp
  unfold sslot
  rw [find_f hS.ndf hp]
  simp only [Option.bind_some, pslot]
  rw [if_pos ⟨by omega, by omega⟩, Int.toNat_natCast, List.getD, List.getElem?_eq_getElem (by omega)]
  rfl
theorem sslot_none {ps : List Pg} {f : Int} (h : skey ps f = none) (i : Int) : sslot ps f i = none := by
  unfold skey at h
  unfold sslot
  cases hp : spage ps f with
  | none => rfl
  | some p => rw [hp] at h; simp at h
theorem skey_mem {P : Pm} {S : SS} (hS : SInv P S) {p : Pg} (hp : p ∈ S.ps) : skey S.ps p.f = some p.k := by
  unfold skey; rw [find_f hS.ndf hp]; rfl
theorem skey_some {ps : List Pg} {f : Int} {k : Key} (h : skey ps f = some k) : ∃ p, p ∈ ps ∧ p.f = f ∧ p.k = k ∧ spage ps f = some p := by
  unfold skey at h
  cases hp : spage ps f with
  | none => rw [hp] at h; simp at h
  | some p =>
    rw [hp] at h
    obtain ⟨hm, hf⟩ := spage_some hp
    exact ⟨p, hm, hf, by simpa using h, rfl⟩
theorem sslot_key {ps : List Pg} {f i : Int} {x : Slt} (h : sslot ps f i = some x) : ∃ k, skey ps f = some k := by
  obtain ⟨_, p, _, _, hp, _⟩ := sslot_some h
  exact ⟨p.k, by unfold skey; rw [hp]; rfl⟩
theorem mem_stold {P : Pm} {S : SS} (hS : SInv P S) (kind dst f i : Int) : (f, i) ∈ stold S.ps kind dst ↔ ∃ x, sslot S.ps f i = some x ∧ x.kind = kind ∧ x.dst = dst := by
  unfold stold ptold
  simp only [List.mem_flatMap, List.mem_map, List.mem_filter, List.mem_range, Prod.mk.injEq, toldB, Bool.and_eq_true, decide_eq_true_eq]
  constructor
  · rintro ⟨p, hp, j, ⟨hj, h1, h2⟩, rfl, rfl⟩
    exact ⟨_, sslot_of hS hp j hj, h1, h2⟩
  · rintro ⟨x, hx, h1, h2⟩
    obtain ⟨hi, p, hp, hf, _, hs⟩ := sslot_some hx
    refine ⟨p, hp, i.toNat, ⟨by omega, ?_⟩, hf, by omega⟩
    rw [List.getD, hs]
    exact ⟨h1, h2⟩
/-- a slot behind a put of a slot that there is -/
theorem sput_view {P : Pm} {S : SS} (hS : SInv P S) {f i : Int} (hi : 0 ≤ i ∧ i < 8) (x : Slt) (dst f' j : Int) :
    sslot (sput S f i x dst).ps f' j = if f' = f ∧ j = i then (sslot S.ps f' j).map (fun _ => x) else sslot S.ps f' j := sslot_setS hS.sl f i x hi f' j
/-- an empty slot is nothing but that -/
def Zero0 (S : SS) : Prop := ∀ f i x, sslot S.ps f i = some x → x.kind = 0 → x = slt0
theorem sclear_view {P : Pm} {S : SS} (hS : SInv P S) (h0 : Zero0 S) (f i f' j : Int) :
    sslot (sclear S f i).2.ps f' j = if f' = f ∧ j = i then (sslot S.ps f' j).map (fun _ => slt0) else sslot S.ps f' j := by
  unfold sclear
  cases hx : sslot S.ps f i with
  | none =>
    simp only
    split
    · rename_i h; obtain ⟨rfl, rfl⟩ := h; rw [hx]; rfl
    · rfl
  | some x =>
    simp only
    split
    · rename_i hk
      have := h0 f i x hx hk
      split
      · rename_i h; obtain ⟨rfl, rfl⟩ := h; rw [hx, this]; rfl
      · rfl
    · exact sput_view hS (sslot_some hx).1 slt0 0 f' j
theorem sclear_zero {P : Pm} {S : SS} (hS : SInv P S) (h0 : Zero0 S) (f i : Int) : Zero0 (sclear S f i).2 := by
  intro f' j x hx hk
  rw [sclear_view hS h0] at hx
  split at hx
  · cases hs : sslot S.ps f' j with
    | none => rw [hs] at hx; simp at hx
    | some y => rw [hs] at hx; simpa using hx.symm
  · exact h0 f' j x hx hk
def clearAll (S : SS) (l : List (Int × Int)) : SS := l.foldl (fun S a => (sclear S a.1 a.2).2) S
theorem clearAll_view {P : Pm} : ∀ (l : List (Int × Int)) {S : SS}, SInv P S → Zero0 S → SInv P (clearAll S l) ∧ Zero0 (clearAll S l) ∧ SameK S (clearAll S l) ∧
    ∀ f j, sslot (clearAll S l).ps f j = if (f, j) ∈ l then (sslot S.ps f j).map (fun _ => slt0) else sslot S.ps f j
  | [], S, hS, h0 => ⟨hS, h0, SameK.refl _, fun f j => by simp [clearAll]⟩
  | a :: r, S, hS, h0 => by
    have h1 := sclear_inv hS a.1 a.2
    have h2 := sclear_zero hS h0 a.1 a.2
    obtain ⟨k1, k2, k3, k4⟩ := clearAll_view r h1 h2
    refine ⟨k1, k2, (SameK.clear S a.1 a.2).trans k3, fun f j => ?_⟩
    refine (k4 f j).trans ?_
    rw [sclear_view hS h0]
    obtain ⟨a1, a2⟩ := a
    by_cases hr : (f, j) ∈ r
    · rw [if_pos hr, if_pos (List.mem_cons_of_mem _ hr)]
      split
      · cases sslot S.ps f j <;> rfl
      · rfl
    · rw [if_neg hr]
      by_cases hq : f = a1 ∧ j = a2
      · rw [if_pos hq, if_pos (by obtain ⟨rfl, rfl⟩ := hq; exact List.mem_cons_self ..)]
      · rw [if_neg hq, if_neg (by
          intro h
          rcases List.mem_cons.1 h with h | h
          · simp only [Prod.mk.injEq] at h; exact hq h
          · exact hr h)]
/-- what lies beyond a frame's words -/
theorem zero8_get (mem : List Nat) (f : Nat) (hm : f * 8 + 8 ≤ mem.length) (k : Nat) : (zero8 mem f)[k]? = if f * 8 ≤ k ∧ k < f * 8 + 8 then some 0 else mem[k]? := by
  have l0 : f * 8 < mem.length := by omega
  have l1 : f * 8 + 1 < mem.length := by omega
  have l2 : f * 8 + 2 < mem.length := by omega
  have l3 : f * 8 + 3 < mem.length := by omega
  have l4 : f * 8 + 4 < mem.length := by omega
  have l5 : f * 8 + 5 < mem.length := by omega
  have l6 : f * 8 + 6 < mem.length := by omega
  have l7 : f * 8 + 7 < mem.length := by omega
  have e : zero8 mem f = (((((((mem.set (f * 8) 0).set (f * 8 + 1) 0).set (f * 8 + 2) 0).set (f * 8 + 3) 0).set (f * 8 + 4) 0).set (f * 8 + 5) 0).set (f * 8 + 6) 0).set (f * 8 + 7) 0 := rfl
  rw [e]
  obtain ⟨q, hq⟩ : ∃ q, f * 8 = q := ⟨_, rfl⟩
  rw [hq] at l0 l1 l2 l3 l4 l5 l6 l7 hm ⊢
  by_cases h : q ≤ k ∧ k < q + 8
  · rw [if_pos h]
    rcases (show k = q ∨ k = q + 1 ∨ k = q + 2 ∨ k = q + 3 ∨ k = q + 4 ∨ k = q + 5 ∨ k = q + 6 ∨ k = q + 7 by omega) with rfl | rfl | rfl | rfl | rfl | rfl | rfl | rfl
    all_goals simp [l0, l1, l2, l3, l4, l5, l6, l7]
  · rw [if_neg h]
    rw [List.getElem?_set_ne (by omega), List.getElem?_set_ne (by omega), List.getElem?_set_ne (by omega), List.getElem?_set_ne (by omega), List.getElem?_set_ne (by omega), List.getElem?_set_ne (by omega), List.getElem?_set_ne (by omega), List.getElem?_set_ne (by omega)]
/-- the host's words beyond the shadow pages' frames are as they were -/
def Far (P : Pm) (S S' : SS) : Prop := ∀ k : Nat, (k < 8 * P.first ∨ 8 * (P.first + P.many) ≤ k) → S'.mem[k]? = S.mem[k]?
theorem Far.refl (P : Pm) (S : SS) : Far P S S := fun _ _ => rfl
theorem Far.trans {P : Pm} {a b c : SS} (h : Far P a b) (k : Far P b c) : Far P a c := fun i hi => (k i hi).trans (h i hi)
theorem Far.put {P : Pm} {S : SS} (hS : SInv P S) {f i : Int} {y : Slt} (hy : sslot S.ps f i = some y) (x : Slt) (dst : Int) : Far P S (sput S f i x dst) := by
  intro k hk
  obtain ⟨hi, p, hp, hf, _, _⟩ := sslot_some hy
  have := hS.pos p hp
  have := hS.fr
  refine List.getElem?_set_ne ?_
  omega
theorem Far.clear {P : Pm} {S : SS} (hS : SInv P S) (f i : Int) : Far P S (sclear S f i).2 := by
  unfold sclear
  cases hx : sslot S.ps f i with
  | none => exact Far.refl _ _
  | some x =>
    simp only
    split
    · exact Far.refl _ _
    · exact Far.put hS hx _ _
theorem Far.child {P : Pm} {S : SS} (hS : SInv P S) (f i c : Int) (r : Rt) : Far P S (schild S f i c r).2 := by
  unfold schild
  cases hx : sslot S.ps f i with
  | none => exact Far.refl _ _
  | some x =>
    split
    · split
      · exact Far.put hS hx _ _
      · exact Far.refl _ _
    · exact Far.refl _ _
theorem Far.leaf {P : Pm} {S : SS} (hS : SInv P S) (n : Nat) (f i g h : Int) (r : Rt) : Far P S (sleaf n S f i g h r).2 := by
  unfold sleaf
  cases hx : sslot S.ps f i with
  | none => exact Far.refl _ _
  | some x =>
    simp only
    split
    · exact Far.put hS hx _ _
    · exact Far.refl _ _
theorem Far.make {P : Pm} {S S' : SS} (hS : SInv P S) {k : Key} {f : Int} (hm : smake P S k = some (f, S')) : Far P S S' := by
  unfold smake at hm
  split at hm
  · simp at hm
  · cases ht : stake P S with
    | none => rw [ht] at hm; simp at hm
    | some t =>
      obtain ⟨f', n', b'⟩ := t
      rw [ht] at hm
      simp only [Option.map_some, Option.some.injEq, Prod.mk.injEq] at hm
      obtain ⟨rfl, rfl⟩ := hm
      obtain ⟨_, h1, h2, _⟩ := stake_forms hS ht
      intro k hk
      have hl := hS.len
      have ht := hS.top
      show (zero8 S.mem f'.toNat)[k]? = _
      rw [zero8_get _ _ (by omega), if_neg (by omega)]
theorem clearAll_far {P : Pm} : ∀ (l : List (Int × Int)) {S : SS}, SInv P S → Far P S (clearAll S l)
  | [], _, _ => Far.refl _ _
  | a :: r, _, hS => (Far.clear hS a.1 a.2).trans (clearAll_far r (sclear_inv hS a.1 a.2))
theorem sdrop_eq {S : SS} {f : Int} {p : Pg} (hp : spage S.ps f = some p) : (sdrop S f).1 = true ∧ (sdrop S f).2.mem = (clearAll S (stold S.ps 1 f ++ (List.range 8).map fun (i : Nat) => (f, (i : Int)))).mem ∧
    (sdrop S f).2.ps = (clearAll S (stold S.ps 1 f ++ (List.range 8).map fun (i : Nat) => (f, (i : Int)))).ps.filter (fun p => !decide (p.f = f)) ∧ (sdrop S f).2.fresh = S.fresh ∧ (sdrop S f).2.back = S.back ++ [f] := by
  have e : clearAll S (stold S.ps 1 f ++ (List.range 8).map fun (i : Nat) => (f, (i : Int))) = (List.range 8).foldl (fun S (i : Nat) => (sclear S f (i : Int)).2) ((stold S.ps 1 f).foldl (fun S a => (sclear S a.1 a.2).2) S) := by
    unfold clearAll; rw [List.foldl_append, List.foldl_map]
  have hfb := foldl_keep (fun T : SS => T.fresh = S.fresh ∧ T.back = S.back) (fun S (a : Int × Int) => (sclear S a.1 a.2).2) (fun T a h => ⟨(SameK.clear T a.1 a.2).fresh.trans h.1, (SameK.clear T a.1 a.2).back.trans h.2⟩) (stold S.ps 1 f ++ (List.range 8).map fun (i : Nat) => (f, (i : Int))) S ⟨rfl, rfl⟩
  change (clearAll _ _).fresh = _ ∧ (clearAll _ _).back = _ at hfb
  unfold sdrop
  rw [hp]
  simp only
  rw [← e]
  exact ⟨trivial, rfl, rfl, hfb.1, by rw [hfb.2]⟩
theorem Far.drop {P : Pm} {S : SS} (hS : SInv P S) (f : Int) : Far P S (sdrop S f).2 := by
  cases hp : spage S.ps f with
  | none => unfold sdrop; rw [hp]; exact Far.refl _ _
  | some p =>
    intro k hk
    rw [(sdrop_eq hp).2.1]
    exact clearAll_far _ hS k hk
end Go.Proofs.YtglohconhbcchaaGreatDoor

namespace Go.Proofs.YtglohconhbcchaaGreatDoor

/-- the guest's frames lie in the host, beside the shadow pages' -/
structure POk (P : Pm) : Prop where
  hosts : ∀ h, h ∈ P.hosts → h < P.n ∧ (h < P.first ∨ P.first + P.many ≤ h)
  pos : 0 < P.n
def lvOf (ps : List Pg) (f : Int) : Int := ((skey ps f).getD ⟨0, 0, 0⟩).lv
/-- what a slot may be, of a page of a level -/
def SlotOk (ps : List Pg) (lv : Int) (x : Slt) : Prop := x = slt0 ∨ (x.kind = 1 ∧ ∃ k, skey ps x.dst = some k ∧ k.lv = lv - 1) ∨ (x.kind = 2 ∧ lv = 1)
structure SOk (S : SS) : Prop where
  kd : (S.ps.map Pg.k).Nodup
  kr : ∀ p, p ∈ S.ps → kright p.k = true
  sk : ∀ f i x, sslot S.ps f i = some x → SlotOk S.ps (lvOf S.ps f) x
theorem SOk.zero {S : SS} (h : SOk S) : Zero0 S := fun f i x hx hk => by
  rcases h.sk f i x hx with e | ⟨e, _⟩ | ⟨e, _⟩
  · exact e
  · rw [hk] at e; cases e
  · rw [hk] at e; cases e
theorem SlotOk.same {S S' : SS} (h : SameK S S') {lv : Int} {x : Slt} (hx : SlotOk S.ps lv x) : SlotOk S'.ps lv x := by
  rcases hx with e | ⟨e, k, h1, h2⟩ | e
  · exact .inl e
  · exact .inr (.inl ⟨e, k, by rw [h.key]; exact h1, h2⟩)
  · exact .inr (.inr e)
theorem lvOf_same {S S' : SS} (h : SameK S S') (f : Int) : lvOf S'.ps f = lvOf S.ps f := by unfold lvOf; rw [h.key]
theorem SOk.same {S S' : SS} (h : SOk S) (hk : SameK S S') (hv : ∀ f i x, sslot S'.ps f i = some x → SlotOk S.ps (lvOf S.ps f) x) : SOk S' := by
  refine ⟨hk.keys ▸ h.kd, fun p hp => ?_, fun f i x hx => ?_⟩
  · have : p.k ∈ S'.ps.map Pg.k := List.mem_map_of_mem hp
    rw [hk.keys] at this
    obtain ⟨q, hq, e⟩ := List.mem_map.1 this
    rw [← e]; exact h.kr q hq
  · rw [lvOf_same hk]
    exact (hv f i x hx).same hk
theorem SOk.put {P : Pm} {S : SS} (h : SOk S) (hS : SInv P S) {f i : Int} {y : Slt} (hy : sslot S.ps f i = some y) (x : Slt) (dst : Int) (hx : SlotOk S.ps (lvOf S.ps f) x) : SOk (sput S f i x dst) := by
  refine h.same (SameK.put _ _ _ _ _) fun f' j z hz => ?_
  rw [sput_view hS (sslot_some hy).1] at hz
  split at hz
  · rename_i e
    obtain ⟨rfl, rfl⟩ := e
    rw [hy] at hz
    simp only [Option.map_some, Option.some.injEq] at hz
    subst hz; exact hx
  · exact h.sk _ _ _ hz
theorem SOk.clear {P : Pm} {S : SS} (h : SOk S) (hS : SInv P S) (f i : Int) : SOk (sclear S f i).2 := by
  refine h.same (SameK.clear _ _ _) fun f' j z hz => ?_
  rw [sclear_view hS h.zero] at hz
  split at hz
  · cases hs : sslot S.ps f' j with
    | none => rw [hs] at hz; simp at hz
    | some y =>
      rw [hs] at hz
      simp only [Option.map_some, Option.some.injEq] at hz
      exact .inl hz.symm
  · exact h.sk _ _ _ hz
theorem SOk.child {P : Pm} {S : SS} (h : SOk S) (hS : SInv P S) (f i c : Int) (r : Rt) : SOk (schild S f i c r).2 := by
  unfold schild
  cases hx : sslot S.ps f i with
  | none => exact h
  | some x =>
    cases hk : skey S.ps c with
    | none => exact h
    | some k =>
      simp only
      split
      · rename_i hl
        exact h.put hS hx _ _ (.inr (.inl ⟨rfl, k, hk, hl⟩))
      · exact h
theorem SOk.leaf {P : Pm} {S : SS} (h : SOk S) (hS : SInv P S) (n : Nat) (f i g k : Int) (r : Rt) : SOk (sleaf n S f i g k r).2 := by
  unfold sleaf
  cases hx : sslot S.ps f i with
  | none => exact h
  | some x =>
    simp only
    split
    · rename_i hl
      exact h.put hS hx _ _ (.inr (.inr ⟨rfl, hl.1⟩))
    · exact h
/-- a page of a new key -/
theorem sslot_made {S : SS} {k : Key} {f : Int} {n : Nat} {b : List Int} (hno : ∀ p, p ∈ S.ps → p.f ≠ f) (f' j : Int) :
    sslot (smade S k f n b).ps f' j = if f' = f then (if 0 ≤ j ∧ j < 8 then some slt0 else none) else sslot S.ps f' j := by
  unfold sslot spage smade
  simp only [List.find?_append]
  by_cases h : f' = f
  · subst h
    have : S.ps.find? (fun p => decide (p.f = f')) = none := List.find?_eq_none.2 fun p hp => by simpa using hno p hp
    simp only [this, Option.none_or, List.find?_cons, decide_true, Option.bind_some, if_true]
    unfold pslot
    split
    · rename_i hj
      simp only [List.getElem?_replicate]
      rw [if_pos (by omega)]
    · rfl
  · have hne : ¬ f = f' := fun e => h e.symm
    simp only [List.find?_cons, hne, decide_false, List.find?_nil, Option.or_none, if_neg h]
theorem skey_made {S : SS} {k : Key} {f : Int} {n : Nat} {b : List Int} (hno : ∀ p, p ∈ S.ps → p.f ≠ f) (f' : Int) : skey (smade S k f n b).ps f' = if f' = f then some k else skey S.ps f' := by
  unfold skey spage smade
  simp only [List.find?_append]
  by_cases h : f' = f
  · subst h
    have : S.ps.find? (fun p => decide (p.f = f')) = none := List.find?_eq_none.2 fun p hp => by simpa using hno p hp
    simp [this]
  · have hne : ¬ f = f' := fun e => h e.symm
    simp [hne, h]
theorem skey_none_of {ps : List Pg} {f : Int} (h : ∀ p, p ∈ ps → p.f ≠ f) : skey ps f = none := by
  unfold skey spage
  rw [List.find?_eq_none.2 fun p hp => by simpa using h p hp]; rfl
theorem SOk.made {S : SS} (h : SOk S) {k : Key} {f : Int} {n : Nat} {b : List Int} (hno : ∀ p, p ∈ S.ps → p.f ≠ f) (hk : sfind S.ps k = none) (hr : kright k = true) : SOk (smade S k f n b) := by
  refine ⟨?_, ?_, fun f' i x hx => ?_⟩
  · show ((S.ps ++ [_]).map Pg.k).Nodup
    rw [List.map_append]
    refine List.nodup_append.2 ⟨h.kd, by simp, ?_⟩
    intro a ha b hb e
    simp only [List.map_cons, List.map_nil, List.mem_singleton] at hb
    obtain ⟨p, hp, rfl⟩ := List.mem_map.1 ha
    unfold sfind at hk
    have hf : S.ps.find? (fun p => decide (p.k = k)) = none := by
      cases hq : S.ps.find? (fun p => decide (p.k = k)) with
      | none => rfl
      | some q => rw [hq] at hk; simp at hk
    have := List.find?_eq_none.1 hf p hp
    simp only [decide_eq_true_eq] at this
    exact this (e.trans hb)
  · intro p hp
    simp only [smade, List.mem_append, List.mem_singleton] at hp
    rcases hp with hp | rfl
    · exact h.kr p hp
    · exact hr
  · rw [sslot_made hno] at hx
    split at hx
    · split at hx
      · simp only [Option.some.injEq] at hx; exact .inl hx.symm
      · simp at hx
    · rename_i hne
      have hlv : lvOf (smade S k f n b).ps f' = lvOf S.ps f' := by unfold lvOf; rw [skey_made hno, if_neg hne]
      rw [hlv]
      rcases h.sk f' i x hx with e | ⟨e, k', h1, h2⟩ | e
      · exact .inl e
      · refine .inr (.inl ⟨e, k', ?_, h2⟩)
        rw [skey_made hno]
        obtain ⟨p, hp, hpf, _⟩ := skey_some h1
        rw [if_neg (by rw [← hpf]; exact hno p hp)]
        exact h1
      · exact .inr (.inr e)
theorem smake_forms {P : Pm} {S S' : SS} (hS : SInv P S) {k : Key} {f : Int} (hm : smake P S k = some (f, S')) :
    sfind S.ps k = none ∧ kright k = true ∧ (∀ p, p ∈ S.ps → p.f ≠ f) ∧ (∃ n b, S' = smade S k f n b) ∧ (P.first : Int) ≤ f ∧ f < P.first + P.many := by
  unfold smake at hm
  split at hm
  · simp at hm
  · rename_i hc
    simp only [Bool.or_eq_true, Bool.not_eq_true', not_or, Bool.not_eq_false] at hc
    cases ht : stake P S with
    | none => rw [ht] at hm; simp at hm
    | some t =>
      obtain ⟨f', n', b'⟩ := t
      rw [ht] at hm
      simp only [Option.map_some, Option.some.injEq, Prod.mk.injEq] at hm
      obtain ⟨rfl, rfl⟩ := hm
      obtain ⟨_, h1, h2, h3⟩ := stake_forms hS ht
      refine ⟨?_, hc.2, h3, ⟨n', b', rfl⟩, h1, h2⟩
      cases hf : sfind S.ps k with
      | none => rfl
      | some q => rw [hf] at hc; simp at hc
theorem spage_filter {ps : List Pg} (f f' : Int) : spage (ps.filter fun p => !decide (p.f = f)) f' = if f' = f then none else spage ps f' := by
  unfold spage
  rw [List.find?_filter]
  split
  · rename_i h
    subst h
    refine List.find?_eq_none.2 fun p _ => ?_
    simp
  · rename_i h
    congr 1
    funext p
    by_cases hp : p.f = f'
    · have : ¬ p.f = f := fun e => h (hp ▸ e)
      simp [hp, h]
    · simp [hp]
/-- slots and keys behind a Drop -/
theorem sdrop_view {P : Pm} {S : SS} (hS : SInv P S) (h : SOk S) {f : Int} {p : Pg} (hp : spage S.ps f = some p) :
    (∀ f' j, sslot (sdrop S f).2.ps f' j = if f' = f then none else (sslot S.ps f' j).map fun x => if x.kind = 1 ∧ x.dst = f then slt0 else x) ∧
    (∀ f', skey (sdrop S f).2.ps f' = if f' = f then none else skey S.ps f') ∧
    (sdrop S f).2.ps.map (fun p => (p.f, p.k)) = (S.ps.filter fun p => !decide (p.f = f)).map fun p => (p.f, p.k) := by
  obtain ⟨_, _, e, _, _⟩ := sdrop_eq hp
  obtain ⟨k1, k2, k3, k4⟩ := clearAll_view (stold S.ps 1 f ++ (List.range 8).map fun (i : Nat) => (f, (i : Int))) hS h.zero
  obtain ⟨T, hT⟩ : ∃ T, clearAll S (stold S.ps 1 f ++ (List.range 8).map fun (i : Nat) => (f, (i : Int))) = T := ⟨_, rfl⟩
  rw [hT] at e k1 k2 k3 k4
  rw [e]
  refine ⟨fun f' j => ?_, fun f' => ?_, ?_⟩
  · unfold sslot
    rw [spage_filter]
    split
    · rfl
    · rename_i hne
      have := k4 f' j
      unfold sslot at this
      rw [this]
      have hm : ((f', j) ∈ stold S.ps 1 f ++ (List.range 8).map fun (i : Nat) => (f, (i : Int))) ↔ ∃ x, sslot S.ps f' j = some x ∧ x.kind = 1 ∧ x.dst = f := by
        rw [List.mem_append, mem_stold hS]
        constructor
        · rintro (h | h)
          · exact h
          · obtain ⟨i, _, e⟩ := List.mem_map.1 h
            simp only [Prod.mk.injEq] at e
            exact absurd e.1.symm hne
        · exact .inl
      cases hx : sslot S.ps f' j with
      | none => unfold sslot at hx; rw [hx]; split <;> rfl
      | some x =>
        have hx' := hx
        unfold sslot at hx
        rw [hx]
        by_cases hc : x.kind = 1 ∧ x.dst = f
        · rw [if_pos (hm.2 ⟨x, hx', hc⟩)]; simp [hc]
        · rw [if_neg (fun hh => by obtain ⟨y, hy, hq⟩ := hm.1 hh; rw [hx'] at hy; cases hy; exact hc hq)]; simp [hc]
  · unfold skey
    rw [spage_filter]
    split
    · rfl
    · have := k3.key f'
      unfold skey at this
      exact this
  · have hfk : T.ps.map (fun p => (p.f, p.k)) = S.ps.map (fun p => (p.f, p.k)) := by
      rw [← hT]
      exact foldl_keep (fun T : SS => T.ps.map (fun p => (p.f, p.k)) = S.ps.map (fun p => (p.f, p.k))) _ (fun T (a : Int × Int) h => by
        refine Eq.trans ?_ h
        unfold sclear
        split
        · split
          · rfl
          · show (setS T.ps a.1 a.2.toNat slt0).map _ = _
            unfold setS
            rw [List.map_map]
            exact List.map_congr_left fun p _ => by simp [setP_f, setP_k]
        · rfl) _ S rfl
    have g : ∀ l : List Pg, (l.filter fun p => !decide (p.f = f)).map (fun p => (p.f, p.k)) = (l.map fun p => (p.f, p.k)).filter fun q => !decide (q.1 = f) := fun l => by
      rw [List.filter_map]; rfl
    rw [g, g, hfk]
theorem SOk.drop {P : Pm} {S : SS} (hS : SInv P S) (h : SOk S) (f : Int) : SOk (sdrop S f).2 := by
  cases hp : spage S.ps f with
  | none => unfold sdrop; rw [hp]; exact h
  | some p =>
    obtain ⟨v1, v2, v3⟩ := sdrop_view hS h hp
    have hks : (sdrop S f).2.ps.map Pg.k = (S.ps.filter fun p => !decide (p.f = f)).map Pg.k := by
      have := congrArg (List.map Prod.snd) v3
      simpa [List.map_map, Function.comp_def] using this
    refine ⟨?_, fun q hq => ?_, fun f' i x hx => ?_⟩
    · rw [hks]; exact h.kd.sublist (List.Sublist.map _ List.filter_sublist)
    · have : q.k ∈ (sdrop S f).2.ps.map Pg.k := List.mem_map_of_mem hq
      rw [hks] at this
      obtain ⟨p', hp', e⟩ := List.mem_map.1 this
      rw [← e]; exact h.kr p' ((List.mem_filter.1 hp').1)
    · rw [v1] at hx
      split at hx
      · simp at hx
      · rename_i hne
        have hlv : lvOf (sdrop S f).2.ps f' = lvOf S.ps f' := by unfold lvOf; rw [v2, if_neg hne]
        rw [hlv]
        cases hs : sslot S.ps f' i with
        | none => rw [hs] at hx; simp at hx
        | some y =>
          rw [hs] at hx
          simp only [Option.map_some, Option.some.injEq] at hx
          split at hx
          · exact .inl hx.symm
          · rename_i hc
            subst hx
            rcases h.sk f' i y hs with e | ⟨e, k', h1, h2⟩ | e
            · exact .inl e
            · refine .inr (.inl ⟨e, k', ?_, h2⟩)
              rw [v2, if_neg (fun e' => hc ⟨e, e'⟩)]; exact h1
            · exact .inr (.inr e)

/-- what is so of a guard, whatever is done -/
structure GInv (P : Pm) (G : GS) : Prop where
  s : SInv P G.s
  k : SOk G.s
  lnd : G.loose.Nodup
  lo : ∀ g, g ∈ G.loose → ∃ p, sof G.s.ps g = [p] ∧ lvOf G.s.ps p = 1
theorem GInv.with {P : Pm} {G : GS} (h : GInv P G) {S : SS} (l : List Hit) (h1 : SInv P S) (h2 : SOk S) (h3 : SameK G.s S) : GInv P ⟨S, l, G.loose⟩ :=
  ⟨h1, h2, h.lnd, fun g hg => by obtain ⟨p, e1, e2⟩ := h.lo g hg; exact ⟨p, (h3.of g).trans e1, (lvOf_same h3 p).trans e2⟩⟩
theorem gzap_inv {P : Pm} {G : GS} (h : GInv P G) (p i : Int) : GInv P (gzap G p i).2 := by
  unfold gzap
  simp only
  split
  · exact h.with [] (sclear_inv h.s _ _) (h.k.clear h.s _ _) (SameK.clear _ _ _)
  · exact h
theorem gword_inv {P : Pm} {G : GS} (h : GInv P G) (g i : Int) : GInv P (gword G g i) := foldl_keep (GInv P) _ (fun _ _ h => gzap_inv h _ _) _ _ h
theorem forbid1_inv {P : Pm} {G : GS} (h : GInv P G) (g : Int) (a : Int × Int) : GInv P (forbid1 P g G a) := by
  unfold forbid1
  simp only
  split
  · exact h.with [] (sleaf_inv h.s _ _ _ _ _) (h.k.leaf h.s _ _ _ _ _ _) (SameK.leaf _ _ _ _ _ _ _)
  · exact h
theorem gforbid_inv {P : Pm} {G : GS} (h : GInv P G) (g : Int) : GInv P (gforbid P G g) := foldl_keep (GInv P) _ (fun _ _ h => forbid1_inv h g _) _ _ h
theorem gtight_inv {P : Pm} {G : GS} (h : GInv P G) (g : Int) : GInv P (gtight G g) :=
  ⟨h.s, h.k, h.lnd.sublist List.filter_sublist, fun g' hg => h.lo g' ((List.mem_filter.1 hg).1)⟩
theorem look1_inv {P : Pm} {G : GS} (h : GInv P G) (g p : Int) (i : Nat) : GInv P (look1 P g p G i) := by
  unfold look1
  simp only
  split
  · exact h.with G.l (sclear_inv h.s _ _) (h.k.clear h.s _ _) (SameK.clear _ _ _)
  · exact h
theorem lookP_inv {P : Pm} {G : GS} (h : GInv P G) (g p : Int) : GInv P (lookP P g G p) := foldl_keep (GInv P) _ (fun _ _ h => look1_inv h g p _) _ _ h
theorem glook_inv {P : Pm} {G : GS} (h : GInv P G) (g : Int) : GInv P (glook P G g).2 := by
  unfold glook
  split
  · have h1 := gforbid_inv (gtight_inv h g) g
    have h2 := foldl_keep (GInv P) (lookP P g) (fun _ p h => lookP_inv h g p) (sof (gforbid P (gtight G g) g).s.ps g) _ h1
    exact ⟨h2.s, h2.k, h2.lnd, h2.lo⟩
  · exact h
theorem gall_inv {P : Pm} {G : GS} (h : GInv P G) : GInv P (gall P G) := foldl_keep (GInv P) _ (fun _ g h => glook_inv h g) _ _ h
theorem gmake1_inv {P : Pm} {G : GS} (h : GInv P G) (k : Key) : GInv P (gmake1 P G k) := by
  unfold gmake1; split
  · exact glook_inv h _
  · exact h
/-- what a fold over calls leaves of what is loose -/
theorem gzap_loose (G : GS) (p i : Int) : (gzap G p i).2.loose = G.loose := by unfold gzap; simp only; split <;> rfl
theorem gword_loose (G : GS) (g i : Int) : (gword G g i).loose = G.loose := foldl_keep (fun T : GS => T.loose = G.loose) _ (fun T p h => (gzap_loose T p i).trans h) _ _ rfl
theorem gforbid_loose (P : Pm) (G : GS) (g : Int) : (gforbid P G g).loose = G.loose := foldl_keep (fun T : GS => T.loose = G.loose) _ (fun T a h => by
  refine Eq.trans ?_ h
  unfold forbid1; simp only; split <;> rfl) _ _ rfl
theorem look1_loose (P : Pm) (g p : Int) (G : GS) (i : Nat) : (look1 P g p G i).loose = G.loose := by unfold look1; simp only; split <;> rfl
theorem lookP_loose (P : Pm) (g p : Int) (G : GS) : (lookP P g G p).loose = G.loose := foldl_keep (fun T : GS => T.loose = G.loose) _ (fun T i h => (look1_loose P g p T i).trans h) _ _ rfl
theorem glook_loose (P : Pm) (G : GS) (g : Int) : (glook P G g).2.loose = G.loose.filter fun l => !decide (l = g) := by
  unfold glook
  split
  · show ((sof (gforbid P (gtight G g) g).s.ps g).foldl (lookP P g) (gforbid P (gtight G g) g)).loose = _
    exact foldl_keep (fun T : GS => T.loose = G.loose.filter fun l => !decide (l = g)) _ (fun T p h => (lookP_loose P g p T).trans h) _ _ (by rw [gforbid_loose]; rfl)
  · rename_i h
    refine (List.filter_eq_self.2 fun a ha => ?_).symm
    have : ¬ a = g := fun e => h (by rw [← e]; simpa using ha)
    simp [this]
theorem glook_not (P : Pm) (G : GS) (g : Int) : g ∉ (glook P G g).2.loose := by
  rw [glook_loose]; simp
theorem sof_made {S : SS} {k : Key} {f : Int} {n : Nat} {b : List Int} (g : Int) : sof (smade S k f n b).ps g = sof S.ps g ++ (if ofB g k then [f] else []) := by
  unfold sof smade
  rw [List.filter_append, List.map_append]
  congr 1
  by_cases h : ofB g k <;> simp [h]
theorem gmake_inv {P : Pm} {G : GS} (h : GInv P G) (k : Key) : GInv P (gmake P G k).2 := by
  unfold gmake
  cases hf : sfind G.s.ps k with
  | some p => exact h
  | none =>
    simp only
    have h1 := gmake1_inv h k
    have hl : k.ro = 0 → k.g ∉ (gmake1 P G k).loose := fun e => by unfold gmake1; rw [if_pos e]; exact glook_not P G k.g
    obtain ⟨G1, hG1⟩ : ∃ G1, gmake1 P G k = G1 := ⟨_, rfl⟩
    rw [hG1] at h1 hl ⊢
    cases hm : smake P G1.s k with
    | none => exact h1
    | some t =>
      obtain ⟨f, S⟩ := t
      simp only
      obtain ⟨m1, m2, m3, ⟨n, b, rfl⟩, m4, m5⟩ := smake_forms h1.s hm
      have h2 : GInv P { G1 with s := smade G1.s k f n b } := by
        refine ⟨smake_inv h1.s hm, h1.k.made m3 m1 m2, h1.lnd, fun g hg => ?_⟩
        obtain ⟨p, e1, e2⟩ := h1.lo g hg
        have hno : ofB g k = false := by
          unfold ofB
          by_cases hr : k.ro = 0
          · have : ¬ k.g = g := fun e => hl hr (e ▸ hg)
            simp [this]
          · simp [hr]
        refine ⟨p, ?_, ?_⟩
        · show sof (smade G1.s k f n b).ps g = _
          rw [sof_made, hno, e1]; rfl
        · show lvOf (smade G1.s k f n b).ps p = 1
          have hpk : p ≠ f := by
            have : p ∈ sof G1.s.ps g := by rw [e1]; simp
            unfold sof at this
            obtain ⟨q, hq, e⟩ := List.mem_map.1 this
            rw [← e]; exact m3 q ((List.mem_filter.1 hq).1)
          unfold lvOf at e2 ⊢
          rw [skey_made m3, if_neg hpk]; exact e2
      split
      · exact gforbid_inv h2 _
      · exact h2
theorem sof_drop {P : Pm} {S : SS} (hS : SInv P S) (h : SOk S) {f : Int} {p : Pg} (hp : spage S.ps f = some p) (g : Int) : sof (sdrop S f).2.ps g = (sof S.ps g).filter fun q => !decide (q = f) := by
  obtain ⟨_, _, v3⟩ := sdrop_view hS h hp
  have e : ∀ l : List Pg, sof l g = ((l.map fun p => (p.f, p.k)).filter fun q => ofB g q.2).map Prod.fst := fun l => by
    unfold sof; rw [List.filter_map, List.map_map]; rfl
  rw [e, e, v3, List.filter_map]
  simp only [List.filter_map, List.map_map, List.filter_filter, Function.comp_def]
  congr 1
  refine List.filter_congr fun q _ => ?_
  exact Bool.and_comm _ _
theorem gdrop_inv {P : Pm} {G : GS} (h : GInv P G) (p : Int) : GInv P (gdrop G p).2 := by
  unfold gdrop
  cases hk : skey G.s.ps p with
  | none => exact h
  | some k =>
    simp only
    obtain ⟨q, hq, hqf, hqk, hpg⟩ := skey_some hk
    have h1 : GInv P (if k.ro = 0 then gtight G k.g else G) := by
      split
      · exact gtight_inv h _
      · exact h
    have hl : k.ro = 0 → k.g ∉ (if k.ro = 0 then gtight G k.g else G).loose := fun e => by rw [if_pos e]; simp [gtight]
    have hs : (if k.ro = 0 then gtight G k.g else G).s = G.s := by split <;> rfl
    obtain ⟨G1, hG1⟩ : ∃ G1, (if k.ro = 0 then gtight G k.g else G) = G1 := ⟨_, rfl⟩
    rw [hG1] at h1 hl hs ⊢
    have hpg1 : spage G1.s.ps p = some q := by rw [hs]; exact hpg
    refine ⟨sdrop_inv h1.s p, SOk.drop h1.s h1.k p, h1.lnd, fun g hg => ?_⟩
    obtain ⟨u, e1, e2⟩ := h1.lo g hg
    have hup : u ≠ p := by
      intro e
      subst e
      have : u ∈ sof G1.s.ps g := by rw [e1]; simp
      unfold sof at this
      obtain ⟨q', hq', e⟩ := List.mem_map.1 this
      obtain ⟨hq1, hq2⟩ := List.mem_filter.1 hq'
      have hqq : q' = q := by
        have := find_f h1.s.ndf hq1
        rw [e, hpg1] at this
        exact (Option.some.inj this).symm
      subst hqq
      rw [hqk] at hq2
      simp only [ofB, Bool.and_eq_true, decide_eq_true_eq] at hq2
      exact hl hq2.1 (hq2.2 ▸ hg)
    refine ⟨u, ?_, ?_⟩
    · show sof (sdrop G1.s p).2.ps g = [u]
      rw [sof_drop h1.s h1.k hpg1, e1]
      simp [hup]
    · show lvOf (sdrop G1.s p).2.ps u = 1
      unfold lvOf at e2 ⊢
      rw [(sdrop_view h1.s h1.k hpg1).2.1, if_neg hup]; exact e2
theorem loosens_forms {G : GS} {g : Int} (h : loosens G g = true) : g ∉ G.loose ∧ ∃ p, sof G.s.ps g = [p] ∧ lvOf G.s.ps p = 1 := by
  unfold loosens at h
  split at h
  · rename_i p hp
    simp only [Bool.and_eq_true, Bool.not_eq_true'] at h
    obtain ⟨h1, h2⟩ := h
    refine ⟨by simpa using h1, p, hp, ?_⟩
    split at h2
    · simp only [Bool.and_eq_true, decide_eq_true_eq] at h2
      exact h2.1
    · simp at h2
  · simp at h
theorem gloosen_inv {P : Pm} {G : GS} (h : GInv P G) (g : Int) : GInv P (gloosen G g).2 := by
  unfold gloosen
  split
  · rename_i hg
    obtain ⟨h1, h2⟩ := loosens_forms hg
    refine ⟨h.s, h.k, ?_, fun g' hg' => ?_⟩
    · refine List.nodup_append.2 ⟨h.lnd, by simp, ?_⟩
      intro a ha b hb e
      simp only [List.mem_singleton] at hb
      exact h1 (hb ▸ e ▸ ha)
    · simp only [List.mem_append, List.mem_singleton] at hg'
      rcases hg' with hg' | rfl
      · exact h.lo g' hg'
      · exact h2
  · exact h
theorem nodup_len {α : Type} [DecidableEq α] : ∀ (l m : List α), l.Nodup → (∀ a, a ∈ l → a ∈ m) → l.length ≤ m.length
  | [], _, _, _ => Nat.zero_le _
  | a :: r, m, hn, hs => by
    have ha := hs a (List.mem_cons_self ..)
    have h1 := nodup_len r (m.erase a) (List.nodup_cons.1 hn).2 (fun b hb => (List.mem_erase_of_ne (fun e => (List.nodup_cons.1 hn).1 (by rw [← e]; exact hb))).2 (hs b (List.mem_cons_of_mem _ hb)))
    rw [List.length_erase_of_mem ha] at h1
    have := List.length_pos_of_mem ha
    simp only [List.length_cons]
    omega
theorem mem_sof {ps : List Pg} {g f : Int} : f ∈ sof ps g ↔ ∃ p, p ∈ ps ∧ p.f = f ∧ p.k.ro = 0 ∧ p.k.g = g := by
  unfold sof ofB
  simp only [List.mem_map, List.mem_filter, Bool.and_eq_true, decide_eq_true_eq]
  constructor
  · rintro ⟨p, ⟨h1, h2, h3⟩, h4⟩; exact ⟨p, h1, h4, h2, h3⟩
  · rintro ⟨p, h1, h4, h2, h3⟩; exact ⟨p, ⟨h1, h2, h3⟩, h4⟩
theorem loose_le {P : Pm} {G : GS} (h : GInv P G) : G.loose.length ≤ G.s.ps.length := by
  have h1 : (G.loose.map fun g => (sof G.s.ps g).headD 0).Nodup := by
    refine List.pairwise_map.2 (h.lnd.imp_of_mem fun {a b} ha hb hne e => ?_)
    obtain ⟨p, e1, _⟩ := h.lo a ha
    obtain ⟨q, e2, _⟩ := h.lo b hb
    rw [e1, e2] at e
    simp only [List.headD_cons] at e
    subst e
    obtain ⟨x, x1, x2, _, x3⟩ := mem_sof.1 (show p ∈ sof G.s.ps a by rw [e1]; simp)
    obtain ⟨y, y1, y2, _, y3⟩ := mem_sof.1 (show p ∈ sof G.s.ps b by rw [e2]; simp)
    have hx := find_f h.s.ndf x1
    have hy := find_f h.s.ndf y1
    rw [x2] at hx
    rw [y2, hx] at hy
    have exy := Option.some.inj hy
    subst exy
    exact hne (x3.symm.trans y3)
  have h2 := nodup_len _ (G.s.ps.map Pg.f) h1 (fun a ha => by
    obtain ⟨g, hg, rfl⟩ := List.mem_map.1 ha
    obtain ⟨p, e1, _⟩ := h.lo g hg
    rw [e1]
    obtain ⟨x, x1, x2, _⟩ := mem_sof.1 (show p ∈ sof G.s.ps g by rw [e1]; simp)
    exact List.mem_map.2 ⟨x, x1, x2⟩)
  simpa using h2
end Go.Proofs.YtglohconhbcchaaGreatDoor
