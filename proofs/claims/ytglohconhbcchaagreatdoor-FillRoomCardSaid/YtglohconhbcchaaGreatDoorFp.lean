/- Layer 17 as functions: a Fill lays shadow pages' entries. No program stands here. The plain law of FillRoom. The plain law of FillTables: no leaf tells a protected frame with W. No program stands here. Layer 17: what a Fill keeps; FillRoom's plain law. No program stands here. Layer 17's laws: their operations as functions, and the plain laws of FillRoom and FillTables. No program stands here. Layer 17: a slot's word in the host's memory is what it tells; the host's machine's walk as a function. No program stands here. -/
import Derived.Test.YtglohconhbcchaaGreatDoorGuP
import Derived.Test.YtglohconhbcchaaGreatDoorLargeP
namespace Go.Proofs.YtglohconhbcchaaGreatDoor

/-- a Fill that goes on: the guard, which pages are pinned, which of the guest's pages were told anew -/
structure JS where
  G : GS
  pinned : List Int
  anew : List Int
def sleft (P : Pm) (S : SS) : Nat := P.many - S.ps.length
def jmake (P : Pm) (J : JS) (k : Key) : Bool × JS := match gmake P J.G k with
  | (some p, G) => (true, { J with G := G, pinned := J.pinned ++ [p] })
  | (none, G) => (false, { J with G := G })
def jtake (P : Pm) (J : JS) (k : Key) : Bool × JS := match sfind J.G.s.ps k with
  | some p => (true, { J with pinned := J.pinned ++ [p] })
  | none => if sleft P J.G.s = 0 then (match (sall J.G.s.ps).find? fun p => !J.pinned.contains p with
      | none => (false, J)
      | some q => jmake P { J with G := (gdrop J.G q).2 } k)
    else jmake P J k
def jtakes (P : Pm) : List Key → JS → Bool × JS
  | [], J => (true, J)
  | k :: r, J => if (jtake P J k).1 then jtakes P r (jtake P J k).2 else (false, (jtake P J k).2)
def jlook (P : Pm) (G : GS) (p : Int) : GS := if ((skey G.s.ps p).getD ⟨0, 0, 0⟩).ro = 0 then (glook P G ((skey G.s.ps p).getD ⟨0, 0, 0⟩).g).2 else G
def jkid (P : Pm) (p : Int) (G : GS) (i : Nat) : GS := if ((sslot G.s.ps p (i : Int)).getD slt0).kind = 1 then jlook P G ((sslot G.s.ps p (i : Int)).getD slt0).dst else G
def jready (P : Pm) (G : GS) (p : Int) : GS :=
  if ((skey G.s.ps p).getD ⟨0, 0, 0⟩).lv = 1 then jlook P G p
  else if ((skey G.s.ps p).getD ⟨0, 0, 0⟩).lv = 2 then (List.range 8).foldl (jkid P p) G
  else G
def jlay (P : Pm) (J : JS) (root p i : Int) (x : Slt) (put : GS → GS) : JS :=
  if (sslot J.G.s.ps p i).getD slt0 = x then J
  else
    let G1 := if x.kind = 1 then jready P J.G x.dst else J.G
    let G3 := put (gzap G1 p i).2
    { J with G := G3, anew := J.anew ++ greach G3.s.ps root p i }
def jlink (P : Pm) (J : JS) (root p i dst : Int) (r : Rt) : JS := jlay P J root p i ⟨1, dst, r⟩ fun G => { G with s := (schild G.s p i dst r).2 }
def jleaf (P : Pm) (J : JS) (root p i g : Int) (r : Rt) : JS := jlay P J root p i ⟨2, g, r⟩ fun G => { G with s := (sleaf P.n G.s p i g (((ghost P g).getD 0 : Nat) : Int) r).2 }
def pte0 : Pte := ⟨false, false, false, false, false, false, false, false, 0⟩
def eright (e : Pte) : Rt := ⟨e.w, e.u, !e.nx⟩
def jlow (es : List Pte) (large dirty : Bool) : Key × Rt :=
  if large then (⟨((es.getD 1 pte0).f : Int), 1, if dirty then 2 else 1⟩, Rt.all) else (⟨((es.getD 1 pte0).f : Int), 1, 0⟩, eright (es.getD 2 pte0))
def jes (P : Pm) (G : GS) (ats : List (Int × Int)) : List Pte := ats.map fun a => pte ((rd P.hosts G.s.mem a.1 a.2).getD 0)
def jkeys (root : Int) (es : List Pte) (large dirty : Bool) : List Key := [⟨root, 3, 0⟩, ⟨((es.getD 0 pte0).f : Int), 2, 0⟩, (jlow es large dirty).1]
/-- Fill -/
def jfill (P : Pm) (G : GS) (root page : Int) (p : Path) (written : Bool) : (List Int × Bool) × GS :=
  let es := jes P G p.ats
  if es.length < 2 ∨ (es.length < 3 ∧ p.large = false) then (([], false), G)
  else
    let dirty := p.dirty || written
    let t := jtakes P (jkeys root es p.large dirty) ⟨G, [], []⟩
    if t.1 = false then (([], false), t.2.G)
    else
      let J := t.2
      let J1 := jlink P J root (J.pinned.getD 0 0) (ix page 3) (J.pinned.getD 1 0) (eright (es.getD 0 pte0))
      let J2 := jlink P J1 root (J.pinned.getD 1 0) (ix page 2) (J.pinned.getD 2 0) (eright (es.getD 1 pte0))
      let may := (jlow es p.large dirty).2
      let J3 := jleaf P J2 root (J.pinned.getD 2 0) (ix page 1) p.g ⟨may.w && dirty && !gprot J2.G p.g, may.u, may.x⟩
      ((J3.anew, true), J3.G)

/-! FillRoom -/
theorem smake_some {P : Pm} {S : SS} (h : SInv P S) {k : Key} (hf : sfind S.ps k = none) (hk : kright k = true) (hr : S.ps.length < P.many) : ∃ f S', smake P S k = some (f, S') := by
  have ht : ∃ t, stake P S = some t := by
    unfold stake
    cases hb : S.back.getLast? with
    | some f => exact ⟨_, rfl⟩
    | none =>
      have e : S.back = [] := List.getLast?_eq_none_iff.1 hb
      have := h.cnt
      rw [e] at this
      simp only [List.length_nil, Nat.add_zero] at this
      exact ⟨_, by simp only; rw [if_pos (by omega)]⟩
  obtain ⟨t, ht⟩ := ht
  refine ⟨t.1, smade S k t.1 t.2.1 t.2.2, ?_⟩
  unfold smake
  rw [hf, hk, ht]
  rfl
theorem same_len {S S' : SS} (h : SameK S S') : S'.ps.length = S.ps.length := by
  have := congrArg List.length h.keys
  simpa using this
theorem glook_same {P : Pm} {G : GS} (g : Int) : SameK G.s (glook P G g).2.s := by
  unfold glook
  split
  · have h1 : SameK G.s (gforbid P (gtight G g) g).s := foldl_keep (fun T : GS => SameK G.s T.s) (forbid1 P g) (fun T a h => h.trans (forbid1_same g T a)) _ _ (SameK.refl _)
    have h2 : ∀ (T : GS) (p : Int), SameK T.s (lookP P g T p).s := fun T p => foldl_keep (fun U : GS => SameK T.s U.s) (look1 P g p) (fun U i h => h.trans (by
      unfold look1
      simp only
      split
      · exact SameK.clear _ _ _
      · exact SameK.refl _)) _ _ (SameK.refl _)
    exact foldl_keep (fun T : GS => SameK G.s T.s) (lookP P g) (fun T p h => h.trans (h2 T p)) _ _ h1
  · exact SameK.refl _
theorem gmake_some {P : Pm} {G : GS} (h : GInv P G) {k : Key} (hf : sfind G.s.ps k = none) (hk : kright k = true) (hr : G.s.ps.length < P.many) : ∃ f G', gmake P G k = (some f, G') := by
  have hs : SameK G.s (gmake1 P G k).s := by
    unfold gmake1
    split
    · exact glook_same _
    · exact SameK.refl _
  obtain ⟨f, S', e⟩ := smake_some (gmake1_inv h k).s (by rw [hs.find]; exact hf) hk (by rw [same_len hs]; exact hr)
  unfold gmake
  rw [hf]
  simp only [e]
  exact ⟨f, _, rfl⟩
theorem jtake_yes {P : Pm} {J : JS} (h : GInv P J.G) {k : Key} (hk : kright k = true) (hm : J.pinned.length < P.many) :
    (jtake P J k).1 = true ∧ GInv P (jtake P J k).2.G ∧ (jtake P J k).2.pinned.length = J.pinned.length + 1 := by
  have make : ∀ J : JS, GInv P J.G → sfind J.G.s.ps k = none → J.G.s.ps.length < P.many → (jmake P J k).1 = true ∧ GInv P (jmake P J k).2.G ∧ (jmake P J k).2.pinned.length = J.pinned.length + 1 := fun J h hf hr => by
    obtain ⟨f, G', e⟩ := gmake_some h hf hk hr
    have hI := gmake_inv h k
    rw [e] at hI
    unfold jmake
    rw [e]
    exact ⟨rfl, hI, by simp⟩
  unfold jtake
  cases hf : sfind J.G.s.ps k with
  | some p => exact ⟨rfl, h, by simp⟩
  | none =>
    simp only
    by_cases hl : sleft P J.G.s = 0
    · rw [if_pos hl]
      have hle : P.many ≤ J.G.s.ps.length := by unfold sleft at hl; omega
      have hex : ∃ q, (sall J.G.s.ps).find? (fun p => !J.pinned.contains p) = some q := by
        cases hq : (sall J.G.s.ps).find? (fun p => !J.pinned.contains p) with
        | some q => exact ⟨q, rfl⟩
        | none =>
          have hall := List.find?_eq_none.1 hq
          have := nodup_len (sall J.G.s.ps) J.pinned h.s.ndf (fun a ha => by have := hall a ha; simpa using this)
          unfold sall at this
          rw [List.length_map] at this
          omega
      obtain ⟨q, hq⟩ := hex
      rw [hq]
      simp only
      have hm' : q ∈ sall J.G.s.ps := List.mem_of_find?_eq_some hq
      unfold sall at hm'
      obtain ⟨pg, hpg, e⟩ := List.mem_map.1 hm'
      have hs := find_f h.s.ndf hpg
      rw [e] at hs
      obtain ⟨v1, v2, v3⟩ := sdrop_view h.s h.k hs
      have hps : (gdrop J.G q).2.s = (sdrop J.G.s q).2 := by
        have hk' : skey J.G.s.ps q = some pg.k := by unfold skey; rw [hs]; rfl
        unfold gdrop
        rw [hk']
        simp only
        split <;> rfl
      have hlen : (gdrop J.G q).2.s.ps.length + 1 = J.G.s.ps.length := by
        rw [hps]
        have := congrArg List.length v3
        simp only [List.length_map] at this
        rw [this]
        exact (nodup_split h.s.ndf hpg e).1
      have hfn : sfind (gdrop J.G q).2.s.ps k = none := by
        rw [hps]
        unfold sfind at hf ⊢
        rw [Option.map_eq_none_iff] at hf ⊢
        refine List.find?_eq_none.2 fun a ha => ?_
        have : (a.f, a.k) ∈ (sdrop J.G.s q).2.ps.map (fun p => (p.f, p.k)) := List.mem_map_of_mem ha
        rw [v3] at this
        obtain ⟨b, hb, eb⟩ := List.mem_map.1 this
        have hb' := List.find?_eq_none.1 hf b ((List.mem_filter.1 hb).1)
        simp only [Prod.mk.injEq] at eb
        rw [← eb.2]; exact hb'
      have hmany : 0 < P.many := by omega
      exact make { J with G := (gdrop J.G q).2 } (gdrop_inv h q) hfn (by have := h.s.fr; have := h.s.cnt; simp only; omega)
    · rw [if_neg hl]
      exact make J h hf (by unfold sleft at hl; omega)
end Go.Proofs.YtglohconhbcchaaGreatDoor

namespace Go.Proofs.YtglohconhbcchaaGreatDoor

/-- no leaf tells a protected frame with W -/
def NoWP (G : GS) : Prop := ∀ f i x, sslot G.s.ps f i = some x → x.kind = 2 → x.r.w = true → gprot G x.dst = false
theorem NoWP.of {G G' : GS} (h : NoWP G) (hs : ∀ f i x, sslot G'.s.ps f i = some x → x.kind = 2 → x.r.w = true → (sslot G.s.ps f i = some x ∧ (gprot G' x.dst = true → gprot G x.dst = true)) ∨ gprot G' x.dst = false) : NoWP G' := fun f i x hx h2 hw => by
  rcases hs f i x hx h2 hw with ⟨h1, h3⟩ | h1
  · cases hc : gprot G' x.dst with
    | false => rfl
    | true => have := h f i x h1 h2 hw; rw [h3 hc] at this; cases this
  · exact h1
theorem prot_same {G G' : GS} (hk : SameK G.s G'.s) (hl : G'.loose = G.loose) (g : Int) : gprot G' g = gprot G g := by unfold gprot; rw [hk.of, hl]
theorem NoWP.zap {P : Pm} {G : GS} (h : NoWP G) (hI : GInv P G) (p i : Int) : NoWP (gzap G p i).2 := by
  refine h.of fun f j x hx h2 _ => .inl ⟨?_, fun hp => ?_⟩
  · rw [gzap_s, sclear_view hI.s hI.k.zero] at hx
    split at hx
    · cases hy : sslot G.s.ps f j with
      | none => rw [hy] at hx; simp at hx
      | some y =>
        rw [hy] at hx
        simp only [Option.map_some, Option.some.injEq] at hx
        rw [← hx] at h2; simp [slt0] at h2
    · exact hx
  · rw [prot_same (by rw [gzap_s]; exact SameK.clear _ _ _) (gzap_loose G p i)] at hp; exact hp
theorem NoWP.word {P : Pm} {G : GS} (h : NoWP G) (hI : GInv P G) (g i : Int) : NoWP (gword G g i) :=
  (foldl_keep (fun T : GS => NoWP T ∧ GInv P T) (fun G p => (gzap G p i).2) (fun _ p h => ⟨h.1.zap h.2 p i, gzap_inv h.2 p i⟩) _ _ ⟨h, hI⟩).1
theorem NoWP.loosen {G : GS} (h : NoWP G) (g : Int) : NoWP (gloosen G g).2 := by
  unfold gloosen
  split
  · refine h.of fun f i x hx _ _ => .inl ⟨hx, fun hp => ?_⟩
    unfold gprot at hp ⊢
    simp only [Bool.and_eq_true, Bool.not_eq_true', decide_eq_true_eq, List.contains_eq_mem, decide_eq_false_iff_not, List.mem_append, not_or] at hp ⊢
    exact ⟨hp.1, hp.2.1⟩
  · exact h
theorem NoWP.mem {G : GS} (h : NoWP G) (m : List Nat) (l : List Hit) : NoWP ⟨{ G.s with mem := m }, l, G.loose⟩ := fun f i x hx h2 hw => h f i x hx h2 hw
theorem NoWP.look {P : Pm} (hP : POk P) {G : GS} (h : NoWP G) (hI : GInv P G) (g : Int) : NoWP (glook P G g).2 := by
  by_cases hg : G.loose.contains g = true
  · obtain ⟨q, _, hq, _, _⟩ := lo_g hI g hg
    obtain ⟨_, _, _, v4, _, _, v7⟩ := glook_view hP hI g hg q hq
    refine h.of fun f i x hx h2 hw => .inl ?_
    rw [v7] at hx
    cases hy : sslot G.s.ps f i with
    | none => rw [hy] at hx; simp at hx
    | some y =>
      rw [hy] at hx
      simp only [Option.map_some, Option.some.injEq] at hx
      have hn : x = noW g y := by
        split at hx
        · unfold keepE at hx
          split at hx
          · rw [← hx] at h2; simp [slt0] at h2
          · exact hx.symm
        · exact hx.symm
      have hyg : ¬ (y.kind = 2 ∧ y.dst = g) := fun e => by
        rw [hn] at hw
        unfold noW at hw
        rw [if_pos e] at hw; cases hw
      have hxy : x = y := by rw [hn]; unfold noW; rw [if_neg hyg]
      rw [hxy]
      refine ⟨rfl, fun hp => ?_⟩
      have hne : y.dst ≠ g := fun e => hyg ⟨by rw [← hxy]; exact h2, e⟩
      unfold gprot at hp ⊢
      rw [v4.of, glook_loose] at hp
      simp only [Bool.and_eq_true, Bool.not_eq_true', decide_eq_true_eq, List.contains_eq_mem, decide_eq_false_iff_not, List.mem_filter] at hp ⊢
      exact ⟨hp.1, fun hm => hp.2 ⟨hm, by simp [hne]⟩⟩
  · have e : (glook P G g).2 = G := by unfold glook; rw [if_neg hg]
    rw [e]; exact h
theorem NoWP.all {P : Pm} (hP : POk P) {G : GS} (h : NoWP G) (hI : GInv P G) : NoWP (gall P G) :=
  (foldl_keep (fun T : GS => NoWP T ∧ GInv P T) (fun G g => (glook P G g).2) (fun _ g h => ⟨h.1.look hP h.2 g, glook_inv h.2 g⟩) _ _ ⟨h, hI⟩).1
theorem NoWP.drop {P : Pm} {G : GS} (h : NoWP G) (hI : GInv P G) (p : Int) : NoWP (gdrop G p).2 := by
  cases hk : skey G.s.ps p with
  | none =>
    have e : (gdrop G p).2 = G := by unfold gdrop; rw [hk]
    rw [e]; exact h
  | some k =>
    obtain ⟨pg, hpg, hpf, hpk, hs⟩ := skey_some hk
    obtain ⟨v1, _, _⟩ := sdrop_view hI.s hI.k hs
    obtain ⟨L, e1, e2⟩ : ∃ L : List Int, gdrop G p = (true, ⟨(sdrop G.s p).2, [], L⟩) ∧ (∀ g, g ∈ L ↔ g ∈ G.loose ∧ ¬ (k.ro = 0 ∧ g = k.g)) := by
      unfold gdrop
      rw [hk]
      by_cases h0 : k.ro = 0
      · exact ⟨(gtight G k.g).loose, by simp [h0]; rfl, fun g => by simp [gtight, h0]⟩
      · exact ⟨G.loose, by simp [h0], fun g => by simp [h0]⟩
    rw [e1]
    refine h.of fun f i x hx h2 hw => .inl ?_
    change sslot (sdrop G.s p).2.ps f i = some x at hx
    rw [v1] at hx
    split at hx
    · simp at hx
    · cases hy : sslot G.s.ps f i with
      | none => rw [hy] at hx; simp at hx
      | some y =>
        rw [hy] at hx
        simp only [Option.map_some, Option.some.injEq] at hx
        split at hx
        · rw [← hx] at h2; simp [slt0] at h2
        · subst hx
          refine ⟨rfl, fun hp => ?_⟩
          unfold gprot at hp ⊢
          change (decide (0 < (sof (sdrop G.s p).2.ps y.dst).length) && !L.contains y.dst) = true at hp
          rw [sof_drop hI.s hI.k hs] at hp
          simp only [Bool.and_eq_true, Bool.not_eq_true', decide_eq_true_eq, List.contains_eq_mem, decide_eq_false_iff_not] at hp ⊢
          have hlen := List.length_filter_le (fun q => !decide (q = p)) (sof G.s.ps y.dst)
          refine ⟨by omega, fun hm => hp.2 ((e2 _).2 ⟨hm, fun hc => ?_⟩)⟩
          obtain ⟨q, hq, _⟩ := hI.lo y.dst hm
          have hpm : p ∈ sof G.s.ps y.dst := mem_sof.2 ⟨pg, hpg, hpf, by rw [hpk]; exact hc.1, by rw [hpk]; exact hc.2.symm⟩
          rw [hq] at hp hpm
          obtain rfl : p = q := by simpa using hpm
          simp at hp
theorem NoWP.make {P : Pm} (hP : POk P) {G : GS} (h : NoWP G) (hI : GInv P G) (k : Key) : NoWP (gmake P G k).2 := by
  have hI1 := gmake1_inv hI k
  have h1 : NoWP (gmake1 P G k) := by
    unfold gmake1
    split
    · exact h.look hP hI _
    · exact h
  unfold gmake
  cases hf : sfind G.s.ps k with
  | some p => exact h
  | none =>
    simp only
    have hl : k.ro = 0 → k.g ∉ (gmake1 P G k).loose := fun e => by unfold gmake1; rw [if_pos e]; exact glook_not P G k.g
    obtain ⟨G1, hG1⟩ : ∃ G1, gmake1 P G k = G1 := ⟨_, rfl⟩
    rw [hG1] at h1 hI1 hl ⊢
    cases hm : smake P G1.s k with
    | none => exact h1
    | some t =>
      obtain ⟨f, S⟩ := t
      simp only
      obtain ⟨m1, m2, m3, ⟨n, b, rfl⟩, m4, m5⟩ := smake_forms hI1.s hm
      have i1 : SInv P ({ G1 with s := smade G1.s k f n b } : GS).s := smake_inv hI1.s hm
      have i2 : SOk ({ G1 with s := smade G1.s k f n b } : GS).s := hI1.k.made m3 m1 m2
      -- slots of the new page are empty
      have hsl : ∀ f' i x, sslot (smade G1.s k f n b).ps f' i = some x → x.kind = 2 → sslot G1.s.ps f' i = some x := fun f' i x hx h2 => by
        rw [sslot_made m3] at hx
        split at hx
        · split at hx
          · rw [← Option.some.inj hx] at h2; simp [slt0] at h2
          · simp at hx
        · exact hx
      have hpr : ∀ g, (k.ro = 0 → g ≠ k.g) → gprot { G1 with s := smade G1.s k f n b } g = true → gprot G1 g = true := fun g hg hp => by
        unfold gprot at hp ⊢
        change (decide (0 < (sof (smade G1.s k f n b).ps g).length) && !G1.loose.contains g) = true at hp
        rw [sof_made, show ofB g k = false by unfold ofB; by_cases h0 : k.ro = 0 <;> simp [h0]; exact fun e => hg h0 e.symm] at hp
        simpa using hp
      by_cases h0 : k.ro = 0
      · rw [if_pos h0]
        obtain ⟨v1, _, _, v4⟩ := gforbid_view hP i1 i2 k.g
        refine h1.of fun f' i x hx h2 hw => .inl ?_
        rw [v1] at hx
        change Option.map (noW k.g) (sslot (smade G1.s k f n b).ps f' i) = some x at hx
        cases hy : sslot (smade G1.s k f n b).ps f' i with
        | none => rw [hy] at hx; simp at hx
        | some y =>
          rw [hy] at hx
          simp only [Option.map_some, Option.some.injEq] at hx
          have hyg : ¬ (y.kind = 2 ∧ y.dst = k.g) := fun e => by
            rw [← hx] at hw
            unfold noW at hw
            rw [if_pos e] at hw; cases hw
          have hxy : y = x := by rw [← hx]; unfold noW; rw [if_neg hyg]
          subst hxy
          refine ⟨hsl _ _ _ hy h2, fun hp => hpr _ (fun _ e => hyg ⟨h2, e⟩) ?_⟩
          rw [prot_same v4 (gforbid_loose P _ _)] at hp
          exact hp
      · rw [if_neg h0]
        exact h1.of fun f' i x hx h2 _ => .inl ⟨hsl f' i x hx h2, hpr _ (fun e => (h0 e).elim)⟩
/-- what a put of one slot leaves -/
theorem NoWP.put {P : Pm} {G : GS} (h : NoWP G) (hI : GInv P G) {p i : Int} (hi : 0 ≤ i ∧ i < 8) (x : Slt) (dst : Int) (hx : x.kind = 2 → x.r.w = true → gprot G x.dst = false) : NoWP { G with s := sput G.s p i x dst } := by
  have hpr : ∀ g, gprot { G with s := sput G.s p i x dst } g = gprot G g := fun g => prot_same (G := G) (G' := { G with s := sput G.s p i x dst }) (SameK.put G.s p i x dst) rfl g
  refine h.of fun f j y hy h2 hw => ?_
  change sslot (sput G.s p i x dst).ps f j = some y at hy
  rw [sput_view hI.s hi] at hy
  split at hy
  · cases hz : sslot G.s.ps f j with
    | none => rw [hz] at hy; simp at hy
    | some z =>
      rw [hz] at hy
      simp only [Option.map_some, Option.some.injEq] at hy
      subst hy
      exact .inr (by rw [hpr]; exact hx h2 hw)
  · exact .inl ⟨hy, fun e => by rw [hpr] at e; exact e⟩
theorem NoWP.child {P : Pm} {G : GS} (h : NoWP G) (hI : GInv P G) (p i c : Int) (r : Rt) : NoWP { G with s := (schild G.s p i c r).2 } := by
  unfold schild
  split
  · rename_i x _ hx _
    split
    · exact h.put hI (sslot_some hx).1 _ _ (fun e => by simp at e)
    · exact h
  · exact h
theorem NoWP.leaf {P : Pm} {G : GS} (h : NoWP G) (hI : GInv P G) (p i g hst : Int) (r : Rt) (hr : r.w = true → gprot G g = false) : NoWP { G with s := (sleaf P.n G.s p i g hst r).2 } := by
  unfold sleaf
  split
  · rename_i x hx
    split
    · exact h.put hI (sslot_some hx).1 _ _ (fun _ hw => hr hw)
    · exact h
  · exact h
end Go.Proofs.YtglohconhbcchaaGreatDoor

namespace Go.Proofs.YtglohconhbcchaaGreatDoor

theorem gchild_inv {P : Pm} {G : GS} (h : GInv P G) (p i c : Int) (r : Rt) : GInv P { G with s := (schild G.s p i c r).2 } := h.with G.l (schild_inv h.s _ _ _ _) (h.k.child h.s _ _ _ _) (SameK.child _ _ _ _ _)
theorem gleaf_inv {P : Pm} {G : GS} (h : GInv P G) (p i g hst : Int) (r : Rt) : GInv P { G with s := (sleaf P.n G.s p i g hst r).2 } := h.with G.l (sleaf_inv h.s _ _ _ _ _) (h.k.leaf h.s _ _ _ _ _ _) (SameK.leaf _ _ _ _ _ _ _)
/-- what is so of a guard in layer 17 -/
def FInv (P : Pm) (G : GS) : Prop := GInv P G ∧ NoWP G
theorem jlook_inv {P : Pm} (hP : POk P) {G : GS} (h : FInv P G) (p : Int) : FInv P (jlook P G p) := by
  unfold jlook
  split
  · exact ⟨glook_inv h.1 _, h.2.look hP h.1 _⟩
  · exact h
theorem jkid_inv {P : Pm} (hP : POk P) {G : GS} (h : FInv P G) (p : Int) (i : Nat) : FInv P (jkid P p G i) := by
  unfold jkid
  split
  · exact jlook_inv hP h _
  · exact h
theorem jready_inv {P : Pm} (hP : POk P) {G : GS} (h : FInv P G) (p : Int) : FInv P (jready P G p) := by
  unfold jready
  split
  · exact jlook_inv hP h _
  · split
    · exact foldl_keep (FInv P) (jkid P p) (fun _ i h => jkid_inv hP h p i) _ _ h
    · exact h
theorem jlink_inv {P : Pm} (hP : POk P) {J : JS} (h : FInv P J.G) (root p i dst : Int) (r : Rt) : FInv P (jlink P J root p i dst r).G ∧ (jlink P J root p i dst r).pinned = J.pinned := by
  unfold jlink jlay
  split
  · exact ⟨h, rfl⟩
  · have h1 : FInv P (jready P J.G dst) := jready_inv hP h dst
    have h2 : FInv P (gzap (jready P J.G dst) p i).2 := ⟨gzap_inv h1.1 _ _, h1.2.zap h1.1 _ _⟩
    exact ⟨⟨gchild_inv h2.1 _ _ _ _, h2.2.child h2.1 _ _ _ _⟩, rfl⟩
theorem jleaf_inv {P : Pm} (_hP : POk P) {J : JS} (h : FInv P J.G) (root p i g : Int) (r : Rt) (hr : r.w = true → gprot J.G g = false) : FInv P (jleaf P J root p i g r).G := by
  unfold jleaf jlay
  split
  · exact h
  · have h2 : FInv P (gzap J.G p i).2 := ⟨gzap_inv h.1 _ _, h.2.zap h.1 _ _⟩
    have hpr : r.w = true → gprot (gzap J.G p i).2 g = false := fun hw => by rw [prot_same (by rw [gzap_s]; exact SameK.clear _ _ _) (gzap_loose J.G p i)]; exact hr hw
    exact ⟨gleaf_inv h2.1 _ _ _ _ _, h2.2.leaf h2.1 _ _ _ _ _ hpr⟩
theorem jmake_inv {P : Pm} (hP : POk P) {J : JS} (h : FInv P J.G) (k : Key) : FInv P (jmake P J k).2.G := by
  have h1 : FInv P (gmake P J.G k).2 := ⟨gmake_inv h.1 k, h.2.make hP h.1 k⟩
  unfold jmake
  split
  · rename_i e; rw [e] at h1; exact h1
  · rename_i e; rw [e] at h1; exact h1
theorem jtake_inv {P : Pm} (hP : POk P) {J : JS} (h : FInv P J.G) (k : Key) : FInv P (jtake P J k).2.G := by
  unfold jtake
  split
  · exact h
  · split
    · split
      · exact h
      · exact jmake_inv hP (J := { J with G := (gdrop J.G _).2 }) ⟨gdrop_inv h.1 _, h.2.drop h.1 _⟩ k
    · exact jmake_inv hP h k
theorem jtakes_inv {P : Pm} (hP : POk P) : ∀ (l : List Key) {J : JS}, FInv P J.G → FInv P (jtakes P l J).2.G
  | [], _, h => h
  | k :: r, J, h => by
    rw [jtakes]
    split
    · exact jtakes_inv hP r (jtake_inv hP h k)
    · exact jtake_inv hP h k
/-- what a Fill keeps -/
theorem jfill_inv {P : Pm} (hP : POk P) {G : GS} (h : FInv P G) (root page : Int) (p : Path) (written : Bool) : FInv P (jfill P G root page p written).2 := by
  unfold jfill
  simp only
  split
  · exact h
  · split
    · exact jtakes_inv hP _ (J := ⟨G, [], []⟩) h
    · obtain ⟨J, hJ⟩ : ∃ J, jtakes P (jkeys root (jes P G p.ats) p.large (p.dirty || written)) ⟨G, [], []⟩ = J := ⟨_, rfl⟩
      have h0 := jtakes_inv hP (jkeys root (jes P G p.ats) p.large (p.dirty || written)) (J := ⟨G, [], []⟩) h
      rw [hJ] at h0 ⊢
      have h1 := (jlink_inv hP h0 root (J.2.pinned.getD 0 0) (ix page 3) (J.2.pinned.getD 1 0) (eright ((jes P G p.ats).getD 0 pte0))).1
      have h2 := (jlink_inv hP h1 root (J.2.pinned.getD 1 0) (ix page 2) (J.2.pinned.getD 2 0) (eright ((jes P G p.ats).getD 1 pte0))).1
      exact jleaf_inv hP h2 _ _ _ _ _ fun hw => by
        simp only [Bool.and_eq_true, Bool.not_eq_true'] at hw
        exact hw.2
theorem jtakes_yes {P : Pm} : ∀ (l : List Key) {J : JS}, GInv P J.G → (∀ k, k ∈ l → kright k = true) → J.pinned.length + l.length ≤ P.many → (jtakes P l J).1 = true
  | [], _, _, _, _ => rfl
  | k :: r, J, h, hk, hm => by
    rw [List.length_cons] at hm
    obtain ⟨a1, a2, a3⟩ := jtake_yes h (hk k (List.mem_cons_self ..)) (by omega)
    rw [jtakes, if_pos a1]
    exact jtakes_yes r a2 (fun k hk' => hk k (List.mem_cons_of_mem _ hk')) (by omega)
/-- there is room for a Fill, with three pages or more -/
theorem jfill_room {P : Pm} {G : GS} (h : GInv P G) (hm : 3 ≤ P.many) (root page : Int) (p : Path) (written : Bool) (hp : p.ats.length = 3 ∨ (p.ats.length = 2 ∧ p.large = true)) : (jfill P G root page p written).1.2 = true := by
  have hes : (jes P G p.ats).length = p.ats.length := by unfold jes; rw [List.length_map]
  have hy := jtakes_yes (P := P) (jkeys root (jes P G p.ats) p.large (p.dirty || written)) (J := ⟨G, [], []⟩) h (fun k hk => by
    unfold jkeys at hk
    simp only [List.mem_cons, List.not_mem_nil, or_false] at hk
    rcases hk with rfl | rfl | rfl
    · rfl
    · rfl
    · unfold jlow
      cases p.large <;> cases (p.dirty || written) <;> rfl) (by unfold jkeys; simp only [List.length_cons, List.length_nil]; omega)
  unfold jfill
  simp only
  rw [if_neg (by rw [hes]; rcases hp with e | ⟨e, e2⟩ <;> simp [e]; exact e2)]
  rw [if_neg (by rw [hy]; simp)]
/-- how long a path is that was found -/
theorem wk_ats {get : Int → Int → Option Nat} {frames : Nat} {root page kind : Int} {user : Bool} {p : Path} (h : wk get frames root page kind user = .ok p) : p.ats.length = 3 ∨ (p.ats.length = 2 ∧ p.large = true) := by
  have ho : out (wk get frames root page kind user) = (p, 0, 0) := by rw [h]; rfl
  rcases wk_forms get frames root page with e | e | e | ⟨hs, e⟩
  · rw [e] at ho; simp at ho
  · rw [e] at ho; simp at ho
  · rw [e] at ho; simp at ho
  · rw [e] at ho
    split at ho
    · simp at ho
    · split at ho
      · simp at ho
      · have hp : endP page (foldP (stepsFrom get page cd0 3 root)) = p := (Prod.mk.inj ho).1
        rw [← hp]
        rcases steps_forms hs with ⟨s3, s2, hl, _, _, p3, p2, _⟩ | ⟨s3, s2, s1, hl, _⟩
        · right
          rw [hl]
          refine ⟨rfl, ?_⟩
          show (foldP [s3, s2]).large = true
          simp [foldP, Path.step, p2, p3]
        · left
          rw [hl]; rfl
end Go.Proofs.YtglohconhbcchaaGreatDoor

namespace Go.Proofs.YtglohconhbcchaaGreatDoor

structure Opf where
  k : Int
  root : Int
  page : Int
  kind : Int
  user : Bool
  g : Int
  i : Int
  v : Nat
  n : Int
/-- what an operation tells: what is told anew, whether there was room, how the walk came out -/
structure Fout where
  anew : List Int
  is : Bool
  how : Int
def fwalk (P : Pm) (G : GS) (o : Opf) : Fout × GS := match wk (rd P.hosts G.s.mem) P.hosts.length o.root o.page o.kind o.user with
  | .error (h, _) => (⟨[], false, h⟩, G)
  | .ok p => (⟨(jfill P G o.root o.page p (decide (o.kind = 1))).1.1, (jfill P G o.root o.page p (decide (o.kind = 1))).1.2, 0⟩, (jfill P G o.root o.page p (decide (o.kind = 1))).2)
def fdo (P : Pm) (G : GS) (o : Opf) : Fout × GS :=
  if o.k = 4 then (⟨[], (gloosen G o.g).1, 0⟩, (gloosen G o.g).2)
  else if o.k = 5 then (⟨[], (place P.hosts o.g o.i).isSome, 0⟩, { G with s := { G.s with mem := wr P.hosts G.s.mem o.g o.i o.v } })
  else if o.k = 6 then (⟨[], true, 0⟩, gall P G)
  else if o.k = 7 then
    (if 0 < (sall G.s.ps).length ∧ 0 ≤ o.n then (⟨[], (gdrop G ((sall G.s.ps).getD (o.n % ((sall G.s.ps).length : Int)).toNat 0)).1, 0⟩, (gdrop G ((sall G.s.ps).getD (o.n % ((sall G.s.ps).length : Int)).toNat 0)).2)
    else (⟨[], true, 0⟩, G))
  else if o.k = 8 then (⟨[], true, 0⟩, gword G o.g o.i)
  else if o.k = 9 then (⟨[], (glook P G o.g).1, 0⟩, (glook P G o.g).2)
  else fwalk P G o
theorem fdo_inv {P : Pm} (hP : POk P) {G : GS} (h : FInv P G) (o : Opf) : FInv P (fdo P G o).2 := by
  unfold fdo
  by_cases c4 : o.k = 4
  · rw [if_pos c4]; exact ⟨gloosen_inv h.1 _, h.2.loosen _⟩
  rw [if_neg c4]
  by_cases c5 : o.k = 5
  · rw [if_pos c5]; exact ⟨mem_inv h.1 _ (wr_len _ _ _ _ _), h.2.mem _ _⟩
  rw [if_neg c5]
  by_cases c6 : o.k = 6
  · rw [if_pos c6]; exact ⟨gall_inv h.1, h.2.all hP h.1⟩
  rw [if_neg c6]
  by_cases c7 : o.k = 7
  · rw [if_pos c7]
    split
    · exact ⟨gdrop_inv h.1 _, h.2.drop h.1 _⟩
    · exact h
  rw [if_neg c7]
  by_cases c8 : o.k = 8
  · rw [if_pos c8]; exact ⟨gword_inv h.1 _ _, h.2.word h.1 _ _⟩
  rw [if_neg c8]
  by_cases c9 : o.k = 9
  · rw [if_pos c9]; exact ⟨glook_inv h.1 _, h.2.look hP h.1 _⟩
  rw [if_neg c9]
  unfold fwalk
  split
  · exact h
  · exact jfill_inv hP h _ _ _ _
/-- FillRoom -/
theorem fdo_room {P : Pm} {G : GS} (h : GInv P G) (hm : 3 ≤ P.many) (o : Opf) (hk : o.k < 4 ∨ 9 < o.k) (hh : ∀ g pg kd us e, wk (rd P.hosts G.s.mem) P.hosts.length g pg kd us = .error e → e.1 ≠ 0) :
    (fdo P G o).1.is = decide ((fdo P G o).1.how = 0) := by
  unfold fdo
  rw [if_neg (by omega), if_neg (by omega), if_neg (by omega), if_neg (by omega), if_neg (by omega), if_neg (by omega)]
  unfold fwalk
  cases hw : wk (rd P.hosts G.s.mem) P.hosts.length o.root o.page o.kind o.user with
  | error e =>
    have := hh _ _ _ _ _ hw
    obtain ⟨e1, e2⟩ := e
    simp only
    exact (decide_eq_false this).symm
  | ok p =>
    simp only
    rw [jfill_room h hm _ _ _ _ (wk_ats hw)]
    rfl
/-- FillTables -/
theorem slot_tables {P : Pm} {G : GS} (h : FInv P G) {f i : Int} {x : Slt} (hx : sslot G.s.ps f i = some x) :
    (x.kind = 2 → x.r.w = true → gprot G x.dst = false) ∧ (x.kind = 1 → ∃ k, skey G.s.ps x.dst = some k ∧ k.lv = lvOf G.s.ps f - 1) := by
  refine ⟨fun h2 hw => h.2 f i x hx h2 hw, fun h1 => ?_⟩
  rcases h.1.k.sk f i x hx with e | ⟨_, k, e1, e2⟩ | ⟨e, _⟩
  · rw [e] at h1; simp [slt0] at h1
  · exact ⟨k, e1, e2⟩
  · rw [e] at h1; simp at h1
/-- all operations, one behind the other, each with a hit ahead of it or not -/
def frun (P : Pm) (G : GS) (l : List Opf) : GS := l.foldl (fun G o => (fdo P G o).2) G
theorem frun_inv {P : Pm} (hP : POk P) {G : GS} (h : FInv P G) (l : List Opf) : FInv P (frun P G l) := foldl_keep (FInv P) _ (fun _ o h => fdo_inv hP h o) l G h
end Go.Proofs.YtglohconhbcchaaGreatDoor

namespace Go.Proofs.YtglohconhbcchaaGreatDoor

/-- the frame that a slot's word tells: a child's own, a leaf's by the map -/
def hostOf (P : Pm) (x : Slt) : Int := if x.kind = 2 then (((ghost P x.dst).getD 0 : Nat) : Int) else x.dst
/-- slots' words stand in the host's memory -/
def MOk (P : Pm) (S : SS) : Prop := ∀ f i x, sslot S.ps f i = some x → S.mem[f.toNat * 8 + i.toNat]? = some (slotV x (hostOf P x))
theorem slot_pos {P : Pm} {S : SS} (h : SInv P S) {f i : Int} {x : Slt} (hx : sslot S.ps f i = some x) : (0 ≤ i ∧ i < 8) ∧ (P.first : Int) ≤ f ∧ f < (P.first : Int) + P.many ∧ f.toNat * 8 + i.toNat < S.mem.length := by
  obtain ⟨hi, p, hp, hf, _⟩ := sslot_some hx
  have := h.pos p hp
  have h1 := h.fr
  have h2 := h.top
  have h3 := h.len
  rw [hf] at this
  exact ⟨hi, this.1, by omega, by omega⟩
theorem MOk.put {P : Pm} {S : SS} (h : MOk P S) (hS : SInv P S) {f i : Int} {y : Slt} (hy : sslot S.ps f i = some y) (x : Slt) : MOk P (sput S f i x (hostOf P x)) := by
  obtain ⟨hi, h1, h2, h3⟩ := slot_pos hS hy
  intro f' j z hz
  rw [sput_view hS hi] at hz
  show (S.mem.set (f.toNat * 8 + i.toNat) (slotV x (hostOf P x)))[f'.toNat * 8 + j.toNat]? = _
  by_cases e : f' = f ∧ j = i
  · rw [if_pos e] at hz
    obtain ⟨rfl, rfl⟩ := e
    rw [hy] at hz
    simp only [Option.map_some, Option.some.injEq] at hz
    subst hz
    rw [List.getElem?_set_self h3]
  · rw [if_neg e] at hz
    obtain ⟨hj, g1, g2, g3⟩ := slot_pos hS hz
    have hne : f.toNat * 8 + i.toNat ≠ f'.toNat * 8 + j.toNat := fun e' => by
      refine e ⟨?_, ?_⟩ <;> omega
    rw [List.getElem?_set_ne hne]
    exact h f' j z hz
theorem MOk.clear {P : Pm} {S : SS} (h : MOk P S) (hS : SInv P S) (f i : Int) : MOk P (sclear S f i).2 := by
  unfold sclear
  split
  · rename_i x hx
    split
    · exact h
    · exact h.put hS hx slt0
  · exact h
theorem MOk.child {P : Pm} {S : SS} (h : MOk P S) (hS : SInv P S) (f i c : Int) (r : Rt) : MOk P (schild S f i c r).2 := by
  unfold schild
  split
  · rename_i x _ hx _
    split
    · exact h.put hS hx ⟨1, c, r⟩
    · exact h
  · exact h
theorem MOk.leaf {P : Pm} {S : SS} (h : MOk P S) (hS : SInv P S) (f i g : Int) (r : Rt) : MOk P (sleaf P.n S f i g (((ghost P g).getD 0 : Nat) : Int) r).2 := by
  unfold sleaf
  split
  · rename_i x hx
    split
    · exact h.put hS hx ⟨2, g, r⟩
    · exact h
  · exact h
/-- words beside the shadow pages' frames may turn -/
theorem MOk.mem {P : Pm} {S : SS} (h : MOk P S) (hS : SInv P S) (m : List Nat) (hm : ∀ k : Nat, 8 * P.first ≤ k → k < 8 * (P.first + P.many) → m[k]? = S.mem[k]?) : MOk P { S with mem := m } := fun f i x hx => by
  obtain ⟨hi, h1, h2, h3⟩ := slot_pos hS hx
  show m[f.toNat * 8 + i.toNat]? = _
  rw [hm _ (by omega) (by omega)]
  exact h f i x hx
theorem MOk.wr {P : Pm} (hP : POk P) {S : SS} (h : MOk P S) (hS : SInv P S) (g i : Int) (v : Nat) : MOk P { S with mem := wr P.hosts S.mem g i v } := by
  refine h.mem hS _ fun k k1 k2 => ?_
  unfold Go.Proofs.YtglohconhbcchaaGreatDoor.wr
  split
  · rename_i q hq
    unfold place at hq
    split at hq
    · cases hh : P.hosts[g.toNat]? with
      | none => rw [hh] at hq; simp at hq
      | some x =>
        rw [hh] at hq
        simp only [Option.map_some, Option.some.injEq] at hq
        have := (hP.hosts x (List.mem_of_getElem? hh)).2
        rw [List.getElem?_set_ne (by omega)]
    · simp at hq
  · rfl
theorem MOk.made {P : Pm} {S : SS} (h : MOk P S) (hS : SInv P S) {k : Key} {f : Int} {n : Nat} {b : List Int} (hno : ∀ p, p ∈ S.ps → p.f ≠ f) (hf : (P.first : Int) ≤ f ∧ f < P.first + P.many) : MOk P (smade S k f n b) := fun f' i x hx => by
  have hl := hS.len
  have ht := hS.top
  show (zero8 S.mem f.toNat)[f'.toNat * 8 + i.toNat]? = _
  rw [zero8_get _ _ (by omega)]
  rw [sslot_made hno] at hx
  by_cases e : f' = f
  · rw [if_pos e] at hx
    split at hx
    · obtain rfl := Option.some.inj hx
      subst e
      rw [if_pos (by omega)]
      rfl
    · simp at hx
  · rw [if_neg e] at hx
    obtain ⟨hi, h1, h2, h3⟩ := slot_pos hS hx
    rw [if_neg (by omega)]
    exact h f' i x hx
theorem MOk.drop {P : Pm} {S : SS} (h : MOk P S) (hS : SInv P S) (f : Int) : MOk P (sdrop S f).2 := by
  cases hp : spage S.ps f with
  | none => unfold sdrop; rw [hp]; exact h
  | some p =>
    have key : ∀ (l : List (Int × Int)) (T : SS), SInv P T → MOk P T → MOk P (clearAll T l) := by
      intro l
      induction l with
      | nil => exact fun T _ h => h
      | cons a r ih => exact fun T hT h => ih _ (sclear_inv hT a.1 a.2) (h.clear hT a.1 a.2)
    have h1 := key (stold S.ps 1 f ++ (List.range 8).map fun (i : Nat) => (f, (i : Int))) S hS h
    obtain ⟨_, e2, e3, _, _⟩ := sdrop_eq hp
    intro f' i x hx
    rw [e2]
    rw [e3] at hx
    refine h1 f' i x ?_
    unfold sslot at hx ⊢
    rw [spage_filter] at hx
    split at hx
    · simp at hx
    · exact hx
/-! entries -/
theorem pteV_get (d : Nat) (hd : d < 1048576) (r : Rt) : (pte (pteV (d : Int) r)).p = true ∧ rtOf (pte (pteV (d : Int) r)) = r ∧ (pte (pteV (d : Int) r)).f = d := by
  obtain ⟨rw', ru, rx⟩ := r
  unfold pteV rtOf pte
  rw [if_pos (by omega)]
  simp only [Int.toNat_natCast, Nat.testBit_eq_decide_div_mod_eq]
  refine ⟨?_, ?_, ?_⟩
  · cases rw' <;> cases ru <;> cases rx <;> simp <;> omega
  · cases rw' <;> cases ru <;> cases rx <;> simp <;> omega
  · cases rw' <;> cases ru <;> cases rx <;> simp <;> omega
theorem pte_zero : (pte 0).p = false := by decide
/-! the host's machine's walk -/
def mget (n : Nat) (mem : List Nat) (f i : Int) : Option Nat := if 0 ≤ f ∧ f < n ∧ 0 ≤ i ∧ i < 8 then mem[f.toNat * 8 + i.toNat]? else none
def mwalk (n : Nat) (mem : List Nat) (page : Int) : Nat → Int → Rt → Option (Int × Rt)
  | 0, f, may => some (f, may)
  | lv + 1, f, may => match mget n mem f (ix page ((lv + 1 : Nat) : Int)) with
    | none => none
    | some v => if (pte v).p then mwalk n mem page lv (pte v).f (may.meet (rtOf (pte v))) else none
/-- .. by the slots of shadow pages -/
def swalk (P : Pm) (ps : List Pg) (page : Int) : Nat → Int → Rt → Option (Int × Rt)
  | 0, f, may => some (f, may)
  | lv + 1, f, may => match sslot ps f (ix page ((lv + 1 : Nat) : Int)) with
    | none => none
    | some x => if x.kind = 0 then none else swalk P ps page lv (hostOf P x) (may.meet x.r)
theorem ix_in (page l : Int) : 0 ≤ ix page l ∧ ix page l < 8 := by
  unfold ix
  split <;> omega
theorem walk_slots {P : Pm} (hP : POk P) {S : SS} (hS : SInv P S) (hk : SOk S) (hm : MOk P S) (page : Int) : ∀ (lv : Nat) (f : Int) (may : Rt), (lv = 0 ∨ ∃ k, skey S.ps f = some k ∧ k.lv = (lv : Int)) → mwalk P.n S.mem page lv f may = swalk P S.ps page lv f may := by
  intro lv
  induction lv with
  | zero => exact fun _ _ _ => rfl
  | succ lv ih =>
    intro f may hf
    obtain ⟨k, hkf, hlv⟩ := hf.resolve_left (by omega)
    obtain ⟨pg, hpg, hpf, hpk, hs⟩ := skey_some hkf
    have hix := ix_in page ((lv + 1 : Nat) : Int)
    obtain ⟨x, hx⟩ : ∃ x, sslot S.ps f (ix page ((lv + 1 : Nat) : Int)) = some x := by
      have := sslot_of hS hpg (ix page ((lv + 1 : Nat) : Int)).toNat (by omega)
      rw [hpf, show (((ix page ((lv + 1 : Nat) : Int)).toNat : Nat) : Int) = ix page ((lv + 1 : Nat) : Int) by omega] at this
      exact ⟨_, this⟩
    obtain ⟨_, p1, p2, p3⟩ := slot_pos hS hx
    have hn := hS.len
    have ht := hS.top
    have hsm := hS.small
    have hw := hm f _ x hx
    rw [mwalk, swalk, hx]
    unfold mget
    rw [if_pos ⟨by omega, by omega, hix.1, hix.2⟩, hw]
    simp only
    by_cases h0 : x.kind = 0
    · have : slotV x (hostOf P x) = 0 := by unfold slotV; rw [if_pos h0]
      rw [this, pte_zero, if_pos h0]
      simp
    · rw [if_neg h0]
      have hv : slotV x (hostOf P x) = pteV (hostOf P x) x.r := by unfold slotV; rw [if_neg h0]
      have hd : 0 ≤ hostOf P x ∧ hostOf P x < 1048576 ∧ (lv = 0 ∨ ∃ k, skey S.ps (hostOf P x) = some k ∧ k.lv = (lv : Int)) := by
        rcases hk.sk f _ x hx with e | ⟨e, k', e1, e2⟩ | ⟨e, e1⟩
        · rw [e] at h0; exact (h0 rfl).elim
        · have hh : hostOf P x = x.dst := by unfold hostOf; rw [if_neg (by omega)]
          obtain ⟨pc, hpc, hcf, hck, _⟩ := skey_some e1
          have hpos := hS.pos pc hpc
          have hfr := hS.fr
          rw [hcf] at hpos
          rw [hh]
          have hlf : lvOf S.ps f = ((lv + 1 : Nat) : Int) := by unfold lvOf; rw [hkf]; exact hlv
          exact ⟨by omega, by omega, .inr ⟨k', e1, by rw [e2, hlf]; omega⟩⟩
        · have hh : hostOf P x = (((ghost P x.dst).getD 0 : Nat) : Int) := by unfold hostOf; rw [if_pos e]
          have hg := ghost_lt hP x.dst
          rw [hh]
          have hlf : lvOf S.ps f = ((lv + 1 : Nat) : Int) := by unfold lvOf; rw [hkf]; exact hlv
          exact ⟨by omega, by omega, .inl (by omega)⟩
      obtain ⟨d, hd'⟩ : ∃ d : Nat, hostOf P x = (d : Int) := ⟨(hostOf P x).toNat, by omega⟩
      rw [hd'] at hd
      rw [hv, hd']
      obtain ⟨q1, q2, q3⟩ := pteV_get d (by omega) x.r
      rw [q1, q2, q3]
      simp only [if_true]
      exact ih (d : Int) _ hd.2.2
end Go.Proofs.YtglohconhbcchaaGreatDoor
