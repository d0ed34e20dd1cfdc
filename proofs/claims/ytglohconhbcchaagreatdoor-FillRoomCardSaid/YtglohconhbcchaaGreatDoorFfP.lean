/- Layer 17: what keeps the slots' words, and leaves the guest's words alone. No program stands here. Layer 17: what stands in the slots behind a Fill. No program stands here. Layer 17: a Fill, whole: what the host's machine finds behind it, and that a second one changes nothing. No program stands here. Layer 17: a second Fill changes nothing; a path's rights; FillFinds' and FillDirty's plain laws. No program stands here. Layer 17: FillDirty's plain law; how many pages a Fill leaves. No program stands here. Layer 17: FillPool's plain law. No program stands here. Layer 17: FillPool's plain law, whole. No program stands here. -/
import Derived.Test.YtglohconhbcchaaGreatDoorFp
import Derived.Test.YtglohconhbcchaaGreatDoorStF
namespace Go.Proofs.YtglohconhbcchaaGreatDoor

/-- slots' words, with what is so of the guard -/
def FM (P : Pm) (G : GS) : Prop := FInv P G ∧ MOk P G.s
theorem zap_mok {P : Pm} {G : GS} (h : MOk P G.s) (hI : GInv P G) (p i : Int) : MOk P (gzap G p i).2.s := by rw [gzap_s]; exact h.clear hI.s p i
theorem forbid1_mok {P : Pm} {G : GS} (h : MOk P G.s) (hS : SInv P G.s) (g : Int) (a : Int × Int) : MOk P (forbid1 P g G a).s := by
  unfold forbid1
  simp only
  split
  · exact h.leaf hS _ _ _ _
  · exact h
theorem gforbid_mok {P : Pm} {G : GS} (h : MOk P G.s) (hS : SInv P G.s) (hk : SOk G.s) (g : Int) : MOk P (gforbid P G g).s :=
  (foldl_keep (fun T : GS => MOk P T.s ∧ SInv P T.s ∧ SOk T.s) (forbid1 P g) (fun _ a h => ⟨forbid1_mok h.1 h.2.1 g a, forbid1_s g a h.2.1 h.2.2⟩) _ _ ⟨h, hS, hk⟩).1
theorem look1_mok {P : Pm} {G : GS} (h : MOk P G.s) (hS : SInv P G.s) (g p : Int) (i : Nat) : MOk P (look1 P g p G i).s := by
  unfold look1
  simp only
  split
  · exact h.clear hS _ _
  · exact h
theorem glook_mok {P : Pm} {G : GS} (h : MOk P G.s) (hI : GInv P G) (g : Int) : MOk P (glook P G g).2.s := by
  unfold glook
  split
  · have h1 := gforbid_mok (G := gtight G g) h hI.s hI.k g
    have h2 := gforbid_s (P := P) (G := gtight G g) hI.s hI.k g
    obtain ⟨T, hT⟩ : ∃ T, gforbid P (gtight G g) g = T := ⟨_, rfl⟩
    rw [hT] at h1 h2
    have key : ∀ (T : GS) (p : Int), (MOk P T.s ∧ SInv P T.s ∧ SOk T.s) → (MOk P (lookP P g T p).s ∧ SInv P (lookP P g T p).s ∧ SOk (lookP P g T p).s) := fun T p h =>
      foldl_keep (fun U : GS => MOk P U.s ∧ SInv P U.s ∧ SOk U.s) (look1 P g p) (fun _ i h => ⟨look1_mok h.1 h.2.1 g p i, (look1_s g p i h.2.1 h.2.2).1, (look1_s g p i h.2.1 h.2.2).2.1⟩) _ _ h
    have := foldl_keep (fun U : GS => MOk P U.s ∧ SInv P U.s ∧ SOk U.s) (lookP P g) (fun T p h => key T p h) (sof T.s.ps g) T ⟨h1, h2.1, h2.2⟩
    simp only
    rw [hT]
    exact this.1
  · exact h
theorem gmake_mok {P : Pm} {G : GS} (h : MOk P G.s) (hI : GInv P G) (k : Key) : MOk P (gmake P G k).2.s := by
  have h1 : MOk P (gmake1 P G k).s := by
    unfold gmake1
    split
    · exact glook_mok h hI _
    · exact h
  have hI1 := gmake1_inv hI k
  unfold gmake
  cases sfind G.s.ps k with
  | some p => exact h
  | none =>
    simp only
    cases hm : smake P (gmake1 P G k).s k with
    | none => exact h1
    | some t =>
      obtain ⟨f, S⟩ := t
      simp only
      obtain ⟨m1, m2, m3, ⟨n, b, rfl⟩, m4, m5⟩ := smake_forms hI1.s hm
      have i1 : MOk P (smade (gmake1 P G k).s k f n b) := h1.made hI1.s m3 ⟨m4, m5⟩
      split
      · exact gforbid_mok (G := { gmake1 P G k with s := smade (gmake1 P G k).s k f n b }) i1 (smake_inv hI1.s hm) (hI1.k.made m3 m1 m2) _
      · exact i1
theorem gdrop_mok {P : Pm} {G : GS} (h : MOk P G.s) (hI : GInv P G) (p : Int) : MOk P (gdrop G p).2.s := by
  unfold gdrop
  cases skey G.s.ps p with
  | none => exact h
  | some k =>
    simp only
    split <;> exact h.drop hI.s p
/-- a Fill's parts, with what they leave alone -/
structure FStep (P : Pm) (G G' : GS) : Prop where
  fm : FM P G'
  far : Far P G.s G'.s
theorem FStep.refl {P : Pm} {G : GS} (h : FM P G) : FStep P G G := ⟨h, Far.refl _ _⟩
theorem FStep.trans {P : Pm} {a b c : GS} (h : FStep P a b) (k : FStep P b c) : FStep P a c := ⟨k.fm, h.far.trans k.far⟩
theorem jlook_step {P : Pm} (hP : POk P) {G : GS} (h : FM P G) (p : Int) : FStep P G (jlook P G p) := by
  refine ⟨⟨jlook_inv hP h.1 p, ?_⟩, ?_⟩
  · unfold jlook
    split
    · exact glook_mok h.2 h.1.1 _
    · exact h.2
  · unfold jlook
    split
    · exact glook_far h.1.1 _
    · exact Far.refl _ _
theorem fold_step {α : Type} {P : Pm} (f : GS → α → GS) (hf : ∀ G a, FM P G → FStep P G (f G a)) : ∀ (l : List α) {G : GS}, FM P G → FStep P G (l.foldl f G)
  | [], _, h => FStep.refl h
  | a :: r, G, h => (hf G a h).trans (fold_step f hf r (hf G a h).fm)
theorem jready_step {P : Pm} (hP : POk P) {G : GS} (h : FM P G) (p : Int) : FStep P G (jready P G p) := by
  unfold jready
  split
  · exact jlook_step hP h _
  · split
    · refine fold_step (jkid P p) (fun G i h => ?_) _ h
      unfold jkid
      split
      · exact jlook_step hP h _
      · exact FStep.refl h
    · exact FStep.refl h
theorem gzap_step {P : Pm} {G : GS} (h : FM P G) (p i : Int) : FStep P G (gzap G p i).2 := ⟨⟨⟨gzap_inv h.1.1 _ _, h.1.2.zap h.1.1 _ _⟩, zap_mok h.2 h.1.1 _ _⟩, gzap_far h.1.1 _ _⟩
theorem jlink_step {P : Pm} (hP : POk P) {J : JS} (h : FM P J.G) (root p i dst : Int) (r : Rt) : FStep P J.G (jlink P J root p i dst r).G := by
  refine ⟨⟨(jlink_inv hP h.1 root p i dst r).1, ?_⟩, ?_⟩
  all_goals
    unfold jlink jlay
    split
    · first | exact h.2 | exact Far.refl _ _
    · have h1 : FStep P J.G (jready P J.G dst) := jready_step hP h dst
      have h2 := h1.trans (gzap_step h1.fm p i)
      first
        | exact h2.fm.2.child h2.fm.1.1.s _ _ _ _
        | exact h2.far.trans (Far.child h2.fm.1.1.s _ _ _ _)
theorem jleaf_step {P : Pm} (hP : POk P) {J : JS} (h : FM P J.G) (root p i g : Int) (r : Rt) (hr : r.w = true → gprot J.G g = false) : FStep P J.G (jleaf P J root p i g r).G := by
  refine ⟨⟨jleaf_inv hP h.1 root p i g r hr, ?_⟩, ?_⟩
  all_goals
    unfold jleaf jlay
    split
    · first | exact h.2 | exact Far.refl _ _
    · have h2 := gzap_step h p i
      first
        | exact h2.fm.2.leaf h2.fm.1.1.s _ _ _ _
        | exact h2.far.trans (Far.leaf h2.fm.1.1.s _ _ _ _ _ _)
theorem jmake_step {P : Pm} (hP : POk P) {J : JS} (h : FM P J.G) (k : Key) : FStep P J.G (jmake P J k).2.G := by
  have h1 : FStep P J.G (gmake P J.G k).2 := ⟨⟨⟨gmake_inv h.1.1 k, h.1.2.make hP h.1.1 k⟩, gmake_mok h.2 h.1.1 k⟩, gmake_far h.1.1 k⟩
  unfold jmake
  split
  · rename_i e; rw [e] at h1; exact h1
  · rename_i e; rw [e] at h1; exact h1
theorem jtake_step {P : Pm} (hP : POk P) {J : JS} (h : FM P J.G) (k : Key) : FStep P J.G (jtake P J k).2.G := by
  unfold jtake
  split
  · exact FStep.refl h
  · split
    · split
      · exact FStep.refl h
      · rename_i q _
        have h1 : FStep P J.G (gdrop J.G q).2 := ⟨⟨⟨gdrop_inv h.1.1 q, h.1.2.drop h.1.1 q⟩, gdrop_mok h.2 h.1.1 q⟩, gdrop_far h.1.1 q⟩
        exact h1.trans (jmake_step hP (J := { J with G := (gdrop J.G q).2 }) h1.fm k)
    · exact jmake_step hP h k
theorem jtakes_step {P : Pm} (hP : POk P) : ∀ (l : List Key) {J : JS}, FM P J.G → FStep P J.G (jtakes P l J).2.G
  | [], _, h => FStep.refl h
  | k :: r, J, h => by
    rw [jtakes]
    split
    · exact (jtake_step hP h k).trans (jtakes_step hP r (jtake_step hP h k).fm)
    · exact jtake_step hP h k
theorem jfill_step {P : Pm} (hP : POk P) {G : GS} (h : FM P G) (root page : Int) (p : Path) (written : Bool) : FStep P G (jfill P G root page p written).2 := by
  unfold jfill
  simp only
  split
  · exact FStep.refl h
  · split
    · exact jtakes_step hP _ (J := ⟨G, [], []⟩) h
    · have h0 := jtakes_step hP (jkeys root (jes P G p.ats) p.large (p.dirty || written)) (J := ⟨G, [], []⟩) h
      obtain ⟨J, hJ⟩ : ∃ J, jtakes P (jkeys root (jes P G p.ats) p.large (p.dirty || written)) ⟨G, [], []⟩ = J := ⟨_, rfl⟩
      rw [hJ] at h0 ⊢
      have h1 := jlink_step hP h0.fm root (J.2.pinned.getD 0 0) (ix page 3) (J.2.pinned.getD 1 0) (eright ((jes P G p.ats).getD 0 pte0))
      have h2 := jlink_step hP h1.fm root (J.2.pinned.getD 1 0) (ix page 2) (J.2.pinned.getD 2 0) (eright ((jes P G p.ats).getD 1 pte0))
      exact ((h0.trans h1).trans h2).trans (jleaf_step hP h2.fm _ _ _ _ _ fun hw => by
        simp only [Bool.and_eq_true, Bool.not_eq_true'] at hw
        exact hw.2)
end Go.Proofs.YtglohconhbcchaaGreatDoor

namespace Go.Proofs.YtglohconhbcchaaGreatDoor

theorem gmake_keys {P : Pm} {G G' : GS} (hI : GInv P G) {k : Key} {p : Int} (h : gmake P G k = (some p, G')) : skey G'.s.ps p = some k ∧ ∀ f k', skey G.s.ps f = some k' → skey G'.s.ps f = some k' := by
  unfold gmake at h
  cases hf : sfind G.s.ps k with
  | some q =>
    rw [hf] at h
    simp only [Prod.mk.injEq, Option.some.injEq] at h
    obtain ⟨rfl, rfl⟩ := h
    refine ⟨?_, fun _ _ h => h⟩
    unfold sfind at hf
    cases hp : G.s.ps.find? (fun p => decide (p.k = k)) with
    | none => rw [hp] at hf; simp at hf
    | some pg =>
      rw [hp] at hf
      simp only [Option.map_some, Option.some.injEq] at hf
      have h1 := List.mem_of_find?_eq_some hp
      have h2 : pg.k = k := by simpa using List.find?_some hp
      rw [← hf, skey_mem hI.s h1, h2]
  | none =>
    rw [hf] at h
    simp only at h
    have hs : SameK G.s (gmake1 P G k).s := by
      unfold gmake1
      split
      · exact glook_same _
      · exact SameK.refl _
    have hI1 := gmake1_inv hI k
    cases hm : smake P (gmake1 P G k).s k with
    | none => rw [hm] at h; simp at h
    | some t =>
      obtain ⟨f, S⟩ := t
      rw [hm] at h
      simp only [Prod.mk.injEq, Option.some.injEq] at h
      obtain ⟨rfl, rfl⟩ := h
      obtain ⟨m1, m2, m3, ⟨n, b, rfl⟩, m4, m5⟩ := smake_forms hI1.s hm
      have i1 : SInv P (smade (gmake1 P G k).s k f n b) := smake_inv hI1.s hm
      have i2 : SOk (smade (gmake1 P G k).s k f n b) := hI1.k.made m3 m1 m2
      have key : ∀ f', skey (if k.ro = 0 then gforbid P { gmake1 P G k with s := smade (gmake1 P G k).s k f n b } k.g else { gmake1 P G k with s := smade (gmake1 P G k).s k f n b }).s.ps f' = if f' = f then some k else skey (gmake1 P G k).s.ps f' := fun f' => by
        rw [← skey_made m3 (n := n) (b := b) (k := k)]
        split
        · exact (foldl_keep (fun T : GS => SameK (smade (gmake1 P G k).s k f n b) T.s) (forbid1 P k.g) (fun T a h => h.trans (forbid1_same k.g T a)) _ _ (SameK.refl _)).key f'
        · rfl
      refine ⟨by rw [key, if_pos rfl], fun f' k' h => ?_⟩
      have h' : skey (gmake1 P G k).s.ps f' = some k' := by rw [hs.key]; exact h
      obtain ⟨pg, q1, q2, _⟩ := skey_some h'
      rw [key, if_neg (fun e => m3 pg q1 (by rw [q2, e]))]
      exact h'
/-- which keys the pinned pages have -/
def Pins (J : JS) (ks : List Key) : Prop := J.pinned.map (skey J.G.s.ps) = ks.map some
theorem Pins.mem {J : JS} {ks : List Key} (h : Pins J ks) {p : Int} (hp : p ∈ J.pinned) : ∃ k, skey J.G.s.ps p = some k := by
  have : skey J.G.s.ps p ∈ ks.map some := by rw [← h]; exact List.mem_map_of_mem hp
  obtain ⟨k, _, e⟩ := List.mem_map.1 this
  exact ⟨k, e.symm⟩
theorem Pins.keys {J J' : JS} {ks : List Key} (h : Pins J ks) (hp : J'.pinned = J.pinned) (hk : ∀ p, p ∈ J.pinned → skey J'.G.s.ps p = skey J.G.s.ps p) : Pins J' ks := by
  unfold Pins at h ⊢
  rw [hp, ← h]
  exact List.map_congr_left fun p hp => hk p hp
theorem Pins.snoc {J J' : JS} {ks : List Key} {p : Int} {k : Key} (h : Pins J ks) (hp : J'.pinned = J.pinned ++ [p]) (hk : ∀ p, p ∈ J.pinned → skey J'.G.s.ps p = skey J.G.s.ps p) (hpk : skey J'.G.s.ps p = some k) : Pins J' (ks ++ [k]) := by
  unfold Pins at h ⊢
  rw [hp, List.map_append, List.map_append, ← h]
  congr 1
  · exact List.map_congr_left fun p hp => hk p hp
  · simp [hpk]
theorem jmake_pins {P : Pm} {J : JS} (hI : GInv P J.G) {ks : List Key} (h : Pins J ks) {k : Key} (ht : (jmake P J k).1 = true) : Pins (jmake P J k).2 (ks ++ [k]) := by
  unfold jmake at ht ⊢
  cases hg : gmake P J.G k with
  | mk o G' =>
    rw [hg] at ht
    cases o with
    | none => simp at ht
    | some p =>
      obtain ⟨h1, h2⟩ := gmake_keys hI hg
      refine h.snoc (p := p) rfl (fun q hq => ?_) h1
      obtain ⟨k', e⟩ := h.mem hq
      show skey G'.s.ps q = _
      rw [h2 q k' e, e]
theorem jtake_pins {P : Pm} {J : JS} (hI : GInv P J.G) {ks : List Key} (h : Pins J ks) {k : Key} (ht : (jtake P J k).1 = true) : Pins (jtake P J k).2 (ks ++ [k]) := by
  unfold jtake at ht ⊢
  cases hf : sfind J.G.s.ps k with
  | some p =>
    refine h.snoc (p := p) rfl (fun _ _ => rfl) ?_
    have := gmake_keys hI (k := k) (p := p) (G' := J.G) (by unfold gmake; rw [hf])
    exact this.1
  | none =>
    rw [hf] at ht
    simp only at ht ⊢
    split at ht
    · rename_i hl
      rw [if_pos hl]
      cases hq : (sall J.G.s.ps).find? (fun p => !J.pinned.contains p) with
      | none => rw [hq] at ht; simp at ht
      | some q =>
        rw [hq] at ht
        simp only at ht ⊢
        have hnp : q ∉ J.pinned := by simpa using List.find?_some hq
        refine jmake_pins (gdrop_inv hI q) (h.keys (J' := { J with G := (gdrop J.G q).2 }) rfl fun p hp => ?_) ht
        show skey (gdrop J.G q).2.s.ps p = _
        cases hk : skey J.G.s.ps q with
        | none => unfold gdrop; rw [hk]
        | some kq =>
          obtain ⟨pg, hpg, hpf, hpk, hs⟩ := skey_some hk
          have hps : (gdrop J.G q).2.s = (sdrop J.G.s q).2 := by
            unfold gdrop
            rw [hk]
            simp only
            split <;> rfl
          rw [hps, (sdrop_view hI.s hI.k hs).2.1, if_neg (fun e : p = q => hnp (e ▸ hp))]
    · rename_i hl
      rw [if_neg hl]
      exact jmake_pins hI h ht
theorem jtakes_pins {P : Pm} : ∀ (l : List Key) {J : JS} {ks : List Key}, GInv P J.G → Pins J ks → (jtakes P l J).1 = true → Pins (jtakes P l J).2 (ks ++ l)
  | [], J, ks, _, h, _ => by
    show Pins J (ks ++ [])
    rw [List.append_nil]; exact h
  | k :: r, J, ks, hI, h, ht => by
    rw [jtakes] at ht ⊢
    split at ht
    · rename_i h1
      rw [if_pos h1]
      have := jtakes_pins r (ks := ks ++ [k]) (by
        -- the guard's invariant behind a take
        have : ∀ J : JS, GInv P J.G → GInv P (jmake P J k).2.G := fun J h => by
          have h2 := gmake_inv h k
          unfold jmake
          split
          · rename_i e; rw [e] at h2; exact h2
          · rename_i e; rw [e] at h2; exact h2
        unfold jtake
        split
        · exact hI
        · split
          · split
            · exact hI
            · exact this { J with G := (gdrop J.G _).2 } (gdrop_inv hI _)
          · exact this J hI) (jtake_pins hI h h1) ht
      simpa using this
    · simp at ht
/-! slots -/
theorem jlook_child {P : Pm} (hP : POk P) {G : GS} (hI : GInv P G) (p : Int) {f i : Int} {x : Slt} (hx : sslot G.s.ps f i = some x) (h2 : x.kind ≠ 2) : sslot (jlook P G p).s.ps f i = some x := by
  unfold jlook
  split
  · obtain ⟨g, hg⟩ : ∃ g, ((skey G.s.ps p).getD ⟨0, 0, 0⟩).g = g := ⟨_, rfl⟩
    rw [hg]
    by_cases hl : G.loose.contains g = true
    · obtain ⟨q, _, hq, _, _⟩ := lo_g hI g hl
      obtain ⟨_, _, _, _, _, _, v⟩ := glook_view hP hI g hl q hq
      rw [v, hx]
      have hn : noW g x = x := by unfold noW; rw [if_neg (fun h => h2 h.1)]
      have hk : keepE P G.s.mem g i x = x := by unfold keepE; rw [if_neg (fun h => h2 h.1)]
      simp [hn, hk]
    · unfold glook
      rw [if_neg hl]; exact hx
  · exact hx
theorem jready_child {P : Pm} (hP : POk P) {G : GS} (h : FM P G) (p : Int) {f i : Int} {x : Slt} (hx : sslot G.s.ps f i = some x) (h2 : x.kind ≠ 2) : sslot (jready P G p).s.ps f i = some x := by
  unfold jready
  split
  · exact jlook_child hP h.1.1 p hx h2
  · split
    · exact (foldl_keep (fun T : GS => FM P T ∧ sslot T.s.ps f i = some x) (jkid P p) (fun T j h => by
        refine ⟨?_, ?_⟩
        · unfold jkid
          split
          · exact (jlook_step hP h.1 _).fm
          · exact h.1
        · unfold jkid
          split
          · exact jlook_child hP h.1.1.1 _ h.2 h2
          · exact h.2) _ _ ⟨h, hx⟩).2
    · exact hx
theorem jlook_same {P : Pm} {G : GS} (p : Int) : SameK G.s (jlook P G p).s := by
  unfold jlook
  split
  · exact glook_same _
  · exact SameK.refl _
theorem jready_same {P : Pm} {G : GS} (p : Int) : SameK G.s (jready P G p).s := by
  unfold jready
  split
  · exact jlook_same _
  · split
    · exact foldl_keep (fun T : GS => SameK G.s T.s) (jkid P p) (fun T j h => h.trans (by
        unfold jkid
        split
        · exact jlook_same _
        · exact SameK.refl _)) _ _ (SameK.refl _)
    · exact SameK.refl _
theorem zap_slot {P : Pm} {G : GS} (hI : GInv P G) (p i f j : Int) : sslot (gzap G p i).2.s.ps f j = if f = p ∧ j = i then (sslot G.s.ps f j).map (fun _ => slt0) else sslot G.s.ps f j := by
  rw [gzap_s, sclear_view hI.s hI.k.zero]
/-- what a link leaves -/
theorem jlink_slots {P : Pm} (hP : POk P) {J : JS} (h : FM P J.G) (root p i dst : Int) (r : Rt) {y : Slt} (hy : sslot J.G.s.ps p i = some y) {kc : Key} (hkc : skey J.G.s.ps dst = some kc) (hlv : kc.lv = lvOf J.G.s.ps p - 1) :
    sslot (jlink P J root p i dst r).G.s.ps p i = some ⟨1, dst, r⟩ ∧ (∀ f j x, ¬ (f = p ∧ j = i) → sslot J.G.s.ps f j = some x → x.kind ≠ 2 → sslot (jlink P J root p i dst r).G.s.ps f j = some x) ∧ SameK J.G.s (jlink P J root p i dst r).G.s := by
  unfold jlink jlay
  split
  · rename_i e
    rw [hy] at e
    simp only [Option.getD_some] at e
    exact ⟨by rw [← e]; exact hy, fun _ _ _ _ hx _ => hx, SameK.refl _⟩
  · simp only [if_true]
    have h1 : FStep P J.G (jready P J.G dst) := jready_step hP h dst
    have s1 : SameK J.G.s (jready P J.G dst).s := jready_same dst
    have h2 := gzap_step h1.fm p i
    have s2 : SameK (jready P J.G dst).s (gzap (jready P J.G dst) p i).2.s := by rw [gzap_s]; exact SameK.clear _ _ _
    have s12 := s1.trans s2
    obtain ⟨T, hT⟩ : ∃ T, (gzap (jready P J.G dst) p i).2 = T := ⟨_, rfl⟩
    have hv := fun f j => zap_slot h1.fm.1.1 p i f j
    rw [hT] at h2 s12 hv ⊢
    have hi := (sslot_some hy).1
    obtain ⟨kp, hkp⟩ := sslot_key hy
    obtain ⟨y', hy'⟩ : ∃ y', sslot T.s.ps p i = some y' := by
      have hkT : skey T.s.ps p = some kp := by rw [s12.key]; exact hkp
      obtain ⟨pg, q1, q2, _⟩ := skey_some hkT
      have := sslot_of h2.fm.1.1.s q1 i.toNat (by omega)
      rw [q2, show ((i.toNat : Nat) : Int) = i by omega] at this
      exact ⟨_, this⟩
    have hkcT : skey T.s.ps dst = some kc := by rw [s12.key]; exact hkc
    have hlvT : kc.lv = ((skey T.s.ps p).getD ⟨0, 0, 0⟩).lv - 1 := by rw [s12.key]; exact hlv
    have hch : (schild T.s p i dst r).2 = sput T.s p i ⟨1, dst, r⟩ dst := by
      unfold schild
      rw [hy', hkcT]
      simp only
      rw [if_pos hlvT]
    rw [hch]
    refine ⟨?_, fun f j x hne hx h2' => ?_, s12.trans (SameK.put _ _ _ _ _)⟩
    · rw [sput_view h2.fm.1.1.s hi, if_pos ⟨rfl, rfl⟩, hy']; rfl
    · rw [sput_view h2.fm.1.1.s hi, if_neg hne, hv, if_neg hne]
      exact jready_child hP h dst hx h2'
/-- what a leaf leaves -/
theorem jleaf_slots {P : Pm} (hP : POk P) {J : JS} (h : FM P J.G) (root p i g : Int) (r : Rt) {y : Slt} (hy : sslot J.G.s.ps p i = some y) (hlv : lvOf J.G.s.ps p = 1) :
    sslot (jleaf P J root p i g r).G.s.ps p i = some ⟨2, g, r⟩ ∧ (∀ f j x, ¬ (f = p ∧ j = i) → sslot J.G.s.ps f j = some x → sslot (jleaf P J root p i g r).G.s.ps f j = some x) ∧ SameK J.G.s (jleaf P J root p i g r).G.s ∧ (jleaf P J root p i g r).G.loose = J.G.loose := by
  unfold jleaf jlay
  split
  · rename_i e
    rw [hy] at e
    simp only [Option.getD_some] at e
    exact ⟨by rw [← e]; exact hy, fun _ _ _ _ hx => hx, SameK.refl _, rfl⟩
  · simp only [show ((2 : Int) = 1) = False from by simp, if_false]
    have h2 := gzap_step h p i
    have s2 : SameK J.G.s (gzap J.G p i).2.s := by rw [gzap_s]; exact SameK.clear _ _ _
    have hlo := gzap_loose J.G p i
    have hv := fun f j => zap_slot h.1.1 p i f j
    obtain ⟨T, hT⟩ : ∃ T, (gzap J.G p i).2 = T := ⟨_, rfl⟩
    rw [hT] at h2 s2 hv hlo ⊢
    have hi := (sslot_some hy).1
    have hy' : sslot T.s.ps p i = some slt0 := by rw [hv, if_pos ⟨rfl, rfl⟩, hy]; rfl
    have hlvT : ((skey T.s.ps p).getD ⟨0, 0, 0⟩).lv = 1 := by rw [s2.key]; exact hlv
    have hlf : (sleaf P.n T.s p i g (((ghost P g).getD 0 : Nat) : Int) r).2 = sput T.s p i ⟨2, g, r⟩ (((ghost P g).getD 0 : Nat) : Int) := by
      unfold sleaf
      rw [hy']
      simp only
      rw [if_pos ⟨hlvT, ghost_lt hP g⟩]
    rw [hlf]
    refine ⟨?_, fun f j x hne hx => ?_, s2.trans (SameK.put _ _ _ _ _), hlo⟩
    · rw [sput_view h2.fm.1.1.s hi, if_pos ⟨rfl, rfl⟩, hy']; rfl
    · rw [sput_view h2.fm.1.1.s hi, if_neg hne, hv, if_neg hne]
      exact hx
end Go.Proofs.YtglohconhbcchaaGreatDoor

namespace Go.Proofs.YtglohconhbcchaaGreatDoor

theorem sfind_key {S : SS} (hk : SOk S) {p : Int} {k : Key} (h : skey S.ps p = some k) : sfind S.ps k = some p := by
  obtain ⟨pg, h1, h2, h3, _⟩ := skey_some h
  unfold sfind
  cases hf : S.ps.find? (fun q => decide (q.k = k)) with
  | none =>
    have := List.find?_eq_none.1 hf pg h1
    simp [h3] at this
  | some q =>
    have q1 := List.mem_of_find?_eq_some hf
    have q2 : q.k = k := by simpa using List.find?_some hf
    have : q = pg := by
      have hd := hk.kd
      obtain ⟨i, hi, ei⟩ := List.getElem_of_mem q1
      obtain ⟨j, hj, ej⟩ := List.getElem_of_mem h1
      have hpw := List.pairwise_iff_getElem.1 (List.pairwise_map.1 hd)
      have hij : i = j := by
        rcases Nat.lt_trichotomy i j with hlt | he | hgt
        · exact (hpw i j hi hj hlt (by rw [ei, ej, q2, h3])).elim
        · exact he
        · exact (hpw j i hj hi hgt (by rw [ei, ej, q2, h3])).elim
      subst hij
      rw [← ei, ← ej]
    simp [this, h2]
theorem slot_there {P : Pm} {S : SS} (hS : SInv P S) {p : Int} {k : Key} (h : skey S.ps p = some k) (page l : Int) : ∃ y, sslot S.ps p (ix page l) = some y := by
  obtain ⟨pg, q1, q2, _⟩ := skey_some h
  have hi := ix_in page l
  have := sslot_of hS q1 (ix page l).toNat (by omega)
  rw [q2, show (((ix page l).toNat : Nat) : Int) = ix page l by omega] at this
  exact ⟨_, this⟩
/-- what stands behind a Fill that there was room for -/
structure Filled (P : Pm) (G : GS) (root page : Int) (g : Int) (k2 k3 : Key) (r1 r2 may : Rt) : Prop where
  fm : FM P G
  lay : ∃ p0 p1 p2, skey G.s.ps p0 = some ⟨root, 3, 0⟩ ∧ skey G.s.ps p1 = some k2 ∧ skey G.s.ps p2 = some k3 ∧
    sslot G.s.ps p0 (ix page 3) = some ⟨1, p1, r1⟩ ∧ sslot G.s.ps p1 (ix page 2) = some ⟨1, p2, r2⟩ ∧ sslot G.s.ps p2 (ix page 1) = some ⟨2, g, ⟨may.w && !gprot G g, may.u, may.x⟩⟩
theorem jfill_filled {P : Pm} (hP : POk P) {G : GS} (h : FM P G) (hm : 3 ≤ P.many) (root page : Int) (p : Path) (written : Bool) (hp : p.ats.length = 3 ∨ (p.ats.length = 2 ∧ p.large = true)) :
    (jfill P G root page p written).1.2 = true ∧ Filled P (jfill P G root page p written).2 root page p.g ⟨(((jes P G p.ats).getD 0 pte0).f : Int), 2, 0⟩ (jlow (jes P G p.ats) p.large (p.dirty || written)).1
      (eright ((jes P G p.ats).getD 0 pte0)) (eright ((jes P G p.ats).getD 1 pte0)) ⟨(jlow (jes P G p.ats) p.large (p.dirty || written)).2.w && (p.dirty || written), (jlow (jes P G p.ats) p.large (p.dirty || written)).2.u, (jlow (jes P G p.ats) p.large (p.dirty || written)).2.x⟩ := by
  obtain ⟨es, hE⟩ : ∃ es, jes P G p.ats = es := ⟨_, rfl⟩
  have hes : es.length = p.ats.length := by rw [← hE]; unfold jes; rw [List.length_map]
  obtain ⟨dirty, hD⟩ : ∃ d, (p.dirty || written) = d := ⟨_, rfl⟩
  have hlow : (jlow es p.large dirty).1.lv = 1 := by unfold jlow; cases p.large <;> rfl
  have hy := jtakes_yes (P := P) (jkeys root es p.large dirty) (J := ⟨G, [], []⟩) h.1.1 (fun k hk => by
    unfold jkeys at hk
    simp only [List.mem_cons, List.not_mem_nil, or_false] at hk
    rcases hk with rfl | rfl | rfl
    · rfl
    · rfl
    · unfold jlow
      cases p.large <;> cases dirty <;> rfl) (by unfold jkeys; simp only [List.length_cons, List.length_nil]; omega)
  have hst := jtakes_step hP (jkeys root es p.large dirty) (J := ⟨G, [], []⟩) h
  have hpn := jtakes_pins (jkeys root es p.large dirty) (J := ⟨G, [], []⟩) (ks := []) h.1.1 rfl hy
  unfold jfill
  rw [hE, hD]
  simp only
  rw [if_neg (by rw [hes]; rcases hp with e | ⟨e, e2⟩ <;> simp [e]; exact e2), if_neg (by rw [hy]; simp)]
  obtain ⟨J, hJ⟩ : ∃ J, (jtakes P (jkeys root es p.large dirty) ⟨G, [], []⟩).2 = J := ⟨_, rfl⟩
  rw [hJ] at hst hpn ⊢
  refine ⟨rfl, ?_⟩
  unfold Pins jkeys at hpn
  simp only [List.nil_append, List.map_cons, List.map_nil] at hpn
  obtain ⟨p0, p1, p2, hpe, k0, k1, k2⟩ : ∃ p0 p1 p2, J.pinned = [p0, p1, p2] ∧ skey J.G.s.ps p0 = some ⟨root, 3, 0⟩ ∧ skey J.G.s.ps p1 = some ⟨((es.getD 0 pte0).f : Int), 2, 0⟩ ∧ skey J.G.s.ps p2 = some (jlow es p.large dirty).1 := by
    cases hq : J.pinned with
    | nil => rw [hq] at hpn; simp at hpn
    | cons a r =>
      cases r with
      | nil => rw [hq] at hpn; simp at hpn
      | cons b r =>
        cases r with
        | nil => rw [hq] at hpn; simp at hpn
        | cons c r =>
          cases r with
          | nil =>
            rw [hq] at hpn
            simp only [List.map_cons, List.map_nil, List.cons.injEq, and_true] at hpn
            exact ⟨a, b, c, rfl, hpn.1, hpn.2.1, hpn.2.2⟩
          | cons d r => rw [hq] at hpn; simp at hpn
  rw [hpe]
  simp only [List.getD_cons_zero, List.getD_cons_succ]
  have n01 : p0 ≠ p1 := fun e => by rw [e, k1] at k0; simp at k0
  have n12 : p1 ≠ p2 := fun e => by rw [e, k2] at k1; have := congrArg Key.lv (Option.some.inj k1); rw [hlow] at this; simp at this
  have n02 : p0 ≠ p2 := fun e => by rw [e, k2] at k0; have := congrArg Key.lv (Option.some.inj k0); rw [hlow] at this; simp at this
  -- the first link
  obtain ⟨y0, hy0⟩ := slot_there hst.fm.1.1.s k0 page 3
  have s1 := jlink_step hP hst.fm root p0 (ix page 3) p1 (eright (es.getD 0 pte0))
  obtain ⟨a1, a2, a3⟩ := jlink_slots hP hst.fm root p0 (ix page 3) p1 (eright (es.getD 0 pte0)) hy0 k1 (by unfold lvOf; rw [k0]; rfl)
  obtain ⟨J1, hJ1⟩ : ∃ J1, jlink P J root p0 (ix page 3) p1 (eright (es.getD 0 pte0)) = J1 := ⟨_, rfl⟩
  rw [hJ1] at s1 a1 a2 a3 ⊢
  -- the second link
  have k0' : skey J1.G.s.ps p0 = some ⟨root, 3, 0⟩ := by rw [a3.key]; exact k0
  have k1' : skey J1.G.s.ps p1 = some ⟨((es.getD 0 pte0).f : Int), 2, 0⟩ := by rw [a3.key]; exact k1
  have k2' : skey J1.G.s.ps p2 = some (jlow es p.large dirty).1 := by rw [a3.key]; exact k2
  obtain ⟨y1, hy1⟩ := slot_there s1.fm.1.1.s k1' page 2
  have s2 := jlink_step hP s1.fm root p1 (ix page 2) p2 (eright (es.getD 1 pte0))
  obtain ⟨b1, b2, b3⟩ := jlink_slots hP s1.fm root p1 (ix page 2) p2 (eright (es.getD 1 pte0)) hy1 k2' (by unfold lvOf; rw [k1', hlow]; rfl)
  have b0 := b2 p0 (ix page 3) _ (fun e => n01 e.1) a1 (by simp)
  obtain ⟨J2, hJ2⟩ : ∃ J2, jlink P J1 root p1 (ix page 2) p2 (eright (es.getD 1 pte0)) = J2 := ⟨_, rfl⟩
  rw [hJ2] at s2 b0 b1 b2 b3 ⊢
  -- the leaf
  have k0'' : skey J2.G.s.ps p0 = some ⟨root, 3, 0⟩ := by rw [b3.key]; exact k0'
  have k1'' : skey J2.G.s.ps p1 = some ⟨((es.getD 0 pte0).f : Int), 2, 0⟩ := by rw [b3.key]; exact k1'
  have k2'' : skey J2.G.s.ps p2 = some (jlow es p.large dirty).1 := by rw [b3.key]; exact k2'
  obtain ⟨y2, hy2⟩ := slot_there s2.fm.1.1.s k2'' page 1
  have hr : ((jlow es p.large dirty).2.w && dirty && !gprot J2.G p.g) = true → gprot J2.G p.g = false := fun hw => by
    simp only [Bool.and_eq_true, Bool.not_eq_true'] at hw
    exact hw.2
  have s3 := jleaf_step hP s2.fm root p2 (ix page 1) p.g ⟨(jlow es p.large dirty).2.w && dirty && !gprot J2.G p.g, (jlow es p.large dirty).2.u, (jlow es p.large dirty).2.x⟩ hr
  obtain ⟨c1, c2, c3, c4⟩ := jleaf_slots hP s2.fm root p2 (ix page 1) p.g ⟨(jlow es p.large dirty).2.w && dirty && !gprot J2.G p.g, (jlow es p.large dirty).2.u, (jlow es p.large dirty).2.x⟩ hy2 (by unfold lvOf; rw [k2'']; exact hlow)
  have hpr := prot_same c3 c4 p.g
  refine ⟨s3.fm, p0, p1, p2, by rw [c3.key]; exact k0'', by rw [c3.key]; exact k1'', by rw [c3.key]; exact k2'', c2 p0 _ _ (fun e => n02 e.1) b0, c2 p1 _ _ (fun e => n12 e.1) b1, ?_⟩
  rw [hpr]
  exact c1
/-- what the host's machine finds then -/
theorem filled_walk {P : Pm} (hP : POk P) {G : GS} {root page g : Int} {k2 k3 : Key} {r1 r2 may : Rt} (h : Filled P G root page g k2 k3 r1 r2 may) :
    ∃ top, sfind G.s.ps ⟨root, 3, 0⟩ = some top ∧ mwalk P.n G.s.mem page 3 top Rt.all = some ((((ghost P g).getD 0 : Nat) : Int), ((Rt.all.meet r1).meet r2).meet ⟨may.w && !gprot G g, may.u, may.x⟩) := by
  obtain ⟨hf, p0, p1, p2, k0, _, _, s0, s1, s2⟩ := h
  refine ⟨p0, sfind_key hf.1.1.k k0, ?_⟩
  rw [walk_slots hP hf.1.1.s hf.1.1.k hf.2 page 3 p0 Rt.all (.inr ⟨_, k0, rfl⟩)]
  have e2 : hostOf P ⟨1, p1, r1⟩ = p1 := rfl
  have e1 : hostOf P ⟨1, p2, r2⟩ = p2 := rfl
  rw [swalk, show ((2 + 1 : Nat) : Int) = 3 from rfl, s0]
  simp only [show ((1 : Int) = 0) = False from by simp, if_false]
  rw [e2, swalk, show ((1 + 1 : Nat) : Int) = 2 from rfl, s1]
  simp only [show ((1 : Int) = 0) = False from by simp, if_false]
  rw [e1, swalk, show ((0 + 1 : Nat) : Int) = 1 from rfl, s2]
  simp only [show ((2 : Int) = 0) = False from by simp, if_false]
  rw [swalk]
  rfl
end Go.Proofs.YtglohconhbcchaaGreatDoor

namespace Go.Proofs.YtglohconhbcchaaGreatDoor

theorem jtake_found {P : Pm} {J : JS} {k : Key} {p : Int} (h : sfind J.G.s.ps k = some p) : jtake P J k = (true, { J with pinned := J.pinned ++ [p] }) := by unfold jtake; rw [h]
/-- the second Fill -/
theorem jfill_same {P : Pm} {G : GS} {root page : Int} {p : Path} {written : Bool} (hp : p.ats.length = 3 ∨ (p.ats.length = 2 ∧ p.large = true))
    (h : Filled P G root page p.g ⟨(((jes P G p.ats).getD 0 pte0).f : Int), 2, 0⟩ (jlow (jes P G p.ats) p.large (p.dirty || written)).1
      (eright ((jes P G p.ats).getD 0 pte0)) (eright ((jes P G p.ats).getD 1 pte0)) ⟨(jlow (jes P G p.ats) p.large (p.dirty || written)).2.w && (p.dirty || written), (jlow (jes P G p.ats) p.large (p.dirty || written)).2.u, (jlow (jes P G p.ats) p.large (p.dirty || written)).2.x⟩) :
    jfill P G root page p written = (([], true), G) := by
  obtain ⟨es, hE⟩ : ∃ es, jes P G p.ats = es := ⟨_, rfl⟩
  have hes : es.length = p.ats.length := by rw [← hE]; unfold jes; rw [List.length_map]
  rw [hE] at h
  obtain ⟨hf, p0, p1, p2, k0, k1, k2, s0, s1, s2⟩ := h
  have f0 := sfind_key hf.1.1.k k0
  have f1 := sfind_key hf.1.1.k k1
  have f2 := sfind_key hf.1.1.k k2
  have ht : jtakes P (jkeys root es p.large (p.dirty || written)) ⟨G, [], []⟩ = (true, ⟨G, [p0, p1, p2], []⟩) := by
    unfold jkeys
    rw [jtakes, jtake_found (J := ⟨G, [], []⟩) f0]
    simp only [if_true, List.nil_append]
    rw [jtakes, jtake_found (J := ⟨G, [p0], []⟩) f1]
    simp only [if_true, List.cons_append, List.nil_append]
    rw [jtakes, jtake_found (J := ⟨G, [p0, p1], []⟩) f2]
    simp only [if_true, List.cons_append, List.nil_append]
    rfl
  unfold jfill
  rw [hE]
  simp only
  rw [if_neg (by rw [hes]; rcases hp with e | ⟨e, e2⟩ <;> simp [e]; exact e2), ht]
  simp only [List.getD_cons_zero, List.getD_cons_succ, Bool.true_eq_false, if_false]
  have l1 : jlink P ⟨G, [p0, p1, p2], []⟩ root p0 (ix page 3) p1 (eright (es.getD 0 pte0)) = ⟨G, [p0, p1, p2], []⟩ := by
    unfold jlink jlay
    rw [if_pos (by simp only; rw [s0]; rfl)]
  rw [l1]
  have l2 : jlink P ⟨G, [p0, p1, p2], []⟩ root p1 (ix page 2) p2 (eright (es.getD 1 pte0)) = ⟨G, [p0, p1, p2], []⟩ := by
    unfold jlink jlay
    rw [if_pos (by simp only; rw [s1]; rfl)]
  rw [l2]
  have l3 : jleaf P ⟨G, [p0, p1, p2], []⟩ root p2 (ix page 1) p.g ⟨(jlow es p.large (p.dirty || written)).2.w && (p.dirty || written) && !gprot G p.g, (jlow es p.large (p.dirty || written)).2.u, (jlow es p.large (p.dirty || written)).2.x⟩ = ⟨G, [p0, p1, p2], []⟩ := by
    unfold jleaf jlay
    rw [if_pos (by simp only; rw [s2]; rfl)]
  rw [l3]
/-- entries that a Fill reads are the same behind one -/
theorem jes_far {P : Pm} (hP : POk P) {G G' : GS} (h : Far P G.s G'.s) (ats : List (Int × Int)) : jes P G' ats = jes P G ats := by
  unfold jes
  exact List.map_congr_left fun a _ => by rw [rd_far hP h]
theorem jfill_twice {P : Pm} (hP : POk P) {G : GS} (h : FM P G) (hm : 3 ≤ P.many) (root page : Int) (p : Path) (written : Bool) (hp : p.ats.length = 3 ∨ (p.ats.length = 2 ∧ p.large = true)) :
    jfill P (jfill P G root page p written).2 root page p written = (([], true), (jfill P G root page p written).2) := by
  have h1 := (jfill_filled hP h hm root page p written hp).2
  have h2 := (jfill_step hP h root page p written).far
  refine jfill_same hp ?_
  rw [jes_far hP h2]
  exact h1
theorem endP_pos (page : Int) (q : Path) (h : 0 ≤ q.g) : 0 ≤ (endP page q).g := by
  have hix := ix_in page 1
  unfold endP
  simp only
  split <;> omega
/-- a path that was found, by its entries -/
theorem wk_path {P : Pm} {G : GS} {root page kind : Int} {user : Bool} {p : Path} (h : wk (rd P.hosts G.s.mem) P.hosts.length root page kind user = .ok p) :
    (0 ≤ p.g ∧ p.g < P.hosts.length) ∧ ∃ e3 e2 e1, ((p.large = true ∧ jes P G p.ats = [e3, e2] ∧ p.r = (Rt.all.meet (rtOf e3)).meet (rtOf e2)) ∨ (p.large = false ∧ jes P G p.ats = [e3, e2, e1] ∧ p.r = ((Rt.all.meet (rtOf e3)).meet (rtOf e2)).meet (rtOf e1))) := by
  have ho : out (wk (rd P.hosts G.s.mem) P.hosts.length root page kind user) = (p, 0, 0) := by rw [h]; rfl
  obtain ⟨hs, _, hg, hp, _⟩ := wk_found ho
  refine ⟨⟨?_, by omega⟩, ?_⟩
  · rw [hp]
    refine endP_pos page _ ?_
    rcases steps_forms hs with ⟨s3, s2, hl, _⟩ | ⟨s3, s2, s1, hl, _⟩
    · rw [hl]
      show (0 : Int) ≤ (s2.e.f : Int)
      omega
    · rw [hl]
      show (0 : Int) ≤ (s1.e.f : Int)
      omega
  · rcases steps_forms hs with ⟨s3, s2, hl, e3, e2, p3, p2, _⟩ | ⟨s3, s2, s1, hl, e3, e2, e1, p3, p2, p1⟩
    · refine ⟨s3.e, s2.e, pte0, .inl ?_⟩
      rw [hp, hl]
      refine ⟨?_, ?_, rfl⟩
      · simp [endP, foldP, Path.step, p2]
      · subst e3 e2
        rfl
    · refine ⟨s3.e, s2.e, s1.e, .inr ?_⟩
      rw [hp, hl]
      refine ⟨?_, ?_, rfl⟩
      · simp [endP, foldP, Path.step, p1]
      · subst e3 e2 e1
        rfl
theorem eright_rt (e : Pte) : eright e = rtOf e := rfl
/-- FillFinds: what the host's machine finds behind a Fill -/
theorem fill_finds_at {G0 G : GS} (h : FM P24 G) {root page kind : Int} {user : Bool} {p : Path} (hw : wk (rd P24.hosts G0.s.mem) P24.hosts.length root page kind user = .ok p) (hj : jes P24 G p.ats = jes P24 G0 p.ats) (written : Bool) :
    (jfill P24 G root page p written).1.2 = true ∧ ∃ top, sfind (jfill P24 G root page p written).2.s.ps ⟨root, 3, 0⟩ = some top ∧
      mwalk P24.n (jfill P24 G root page p written).2.s.mem page 3 top Rt.all = some (24 + p.g, ⟨p.r.w && (p.dirty || written) && !gprot (jfill P24 G root page p written).2 p.g, p.r.u, p.r.x⟩) := by
  obtain ⟨hy, hF⟩ := jfill_filled POk24 h (by decide) root page p written (wk_ats hw)
  obtain ⟨top, ht, hm⟩ := filled_walk POk24 hF
  refine ⟨hy, top, ht, ?_⟩
  rw [hm]
  obtain ⟨⟨g0, g1⟩, e3, e2, e1, hc⟩ := wk_path hw
  rw [← hj] at hc
  have hg : (((ghost P24 p.g).getD 0 : Nat) : Int) = 24 + p.g := by
    have hl : P24.hosts.length = 16 := by decide
    rw [hl] at g1
    obtain ⟨n, hn⟩ : ∃ n : Nat, p.g = (n : Int) := ⟨p.g.toNat, by omega⟩
    rw [hn] at g1 ⊢
    unfold ghost
    rw [if_pos (by rw [hl]; omega)]
    have hn16 : n < 16 := by omega
    show (((h24[((n : Int)).toNat]?).getD 0 : Nat) : Int) = _
    unfold h24
    rw [Int.toNat_natCast, List.getElem?_map, List.getElem?_range hn16]
    simp
  rw [hg]
  congr 2
  obtain ⟨pr, hpr⟩ : ∃ b, gprot (jfill P24 G root page p written).2 p.g = b := ⟨_, rfl⟩
  obtain ⟨d, hd⟩ : ∃ d, (p.dirty || written) = d := ⟨_, rfl⟩
  rw [hpr, hd]
  rcases hc with ⟨hl, he, hr⟩ | ⟨hl, he, hr⟩
  · rw [he, hl, hr]
    simp only [List.getD_cons_zero, List.getD_cons_succ, jlow, if_true, eright_rt, Rt.meet, Rt.all, Bool.true_and, Bool.and_true, Rt.mk.injEq]
    refine ⟨?_, trivial, trivial⟩
    simp only [Bool.and_assoc]
  · rw [he, hl, hr]
    simp only [List.getD_cons_zero, List.getD_cons_succ, jlow, Bool.false_eq_true, if_false, eright_rt, Rt.meet, Rt.all, Bool.true_and, Rt.mk.injEq]
    refine ⟨?_, trivial, trivial⟩
    simp only [Bool.and_assoc]
theorem fill_finds {G : GS} (h : FM P24 G) {root page kind : Int} {user : Bool} {p : Path} (hw : wk (rd P24.hosts G.s.mem) P24.hosts.length root page kind user = .ok p) (written : Bool) :
    (jfill P24 G root page p written).1.2 = true ∧ ∃ top, sfind (jfill P24 G root page p written).2.s.ps ⟨root, 3, 0⟩ = some top ∧
      mwalk P24.n (jfill P24 G root page p written).2.s.mem page 3 top Rt.all = some (24 + p.g, ⟨p.r.w && (p.dirty || written) && !gprot (jfill P24 G root page p written).2 p.g, p.r.u, p.r.x⟩) := fill_finds_at h hw rfl written
end Go.Proofs.YtglohconhbcchaaGreatDoor

namespace Go.Proofs.YtglohconhbcchaaGreatDoor

theorem jmake_prefix (P : Pm) (J : JS) (k : Key) : ∃ l, (jmake P J k).2.pinned = J.pinned ++ l := by
  unfold jmake
  split
  · exact ⟨_, rfl⟩
  · exact ⟨[], by simp⟩
theorem jtake_prefix (P : Pm) (J : JS) (k : Key) : ∃ l, (jtake P J k).2.pinned = J.pinned ++ l := by
  unfold jtake
  split
  · exact ⟨_, rfl⟩
  · split
    · split
      · exact ⟨[], by simp⟩
      · exact jmake_prefix P { J with G := (gdrop J.G _).2 } k
    · exact jmake_prefix P J k
theorem jtakes_prefix (P : Pm) : ∀ (l : List Key) (J : JS), ∃ m, (jtakes P l J).2.pinned = J.pinned ++ m
  | [], J => ⟨[], by show J.pinned = _; rw [List.append_nil]⟩
  | k :: r, J => by
    obtain ⟨m, hm⟩ := jtake_prefix P J k
    rw [jtakes]
    split
    · obtain ⟨m', hm'⟩ := jtakes_prefix P r (jtake P J k).2
      exact ⟨m ++ m', by rw [hm', hm, List.append_assoc]⟩
    · exact ⟨m, hm⟩
/-- the root's page stays the root's page -/
theorem jfill_top {P : Pm} (hP : POk P) {G : GS} (h : FM P G) (hm : 3 ≤ P.many) (root page : Int) (p : Path) (written : Bool) (hp : p.ats.length = 3 ∨ (p.ats.length = 2 ∧ p.large = true)) {top : Int} (ht : sfind G.s.ps ⟨root, 3, 0⟩ = some top) :
    sfind (jfill P G root page p written).2.s.ps ⟨root, 3, 0⟩ = some top := by
  have hes : (jes P G p.ats).length = p.ats.length := by unfold jes; rw [List.length_map]
  obtain ⟨es, hE⟩ : ∃ es, jes P G p.ats = es := ⟨_, rfl⟩
  obtain ⟨dirty, hD⟩ : ∃ d, (p.dirty || written) = d := ⟨_, rfl⟩
  rw [hE] at hes
  have hfst := (jfill_step hP h root page p written).fm
  have hy := jtakes_yes (P := P) (jkeys root es p.large dirty) (J := ⟨G, [], []⟩) h.1.1 (fun k hk => by
    unfold jkeys at hk
    simp only [List.mem_cons, List.not_mem_nil, or_false] at hk
    rcases hk with rfl | rfl | rfl
    · rfl
    · rfl
    · unfold jlow
      cases p.large <;> cases dirty <;> rfl) (by unfold jkeys; simp only [List.length_cons, List.length_nil]; omega)
  have hst := jtakes_step hP (jkeys root es p.large dirty) (J := ⟨G, [], []⟩) h
  have hpn := jtakes_pins (jkeys root es p.large dirty) (J := ⟨G, [], []⟩) (ks := []) h.1.1 rfl hy
  have hpre : ∃ m, (jtakes P (jkeys root es p.large dirty) ⟨G, [], []⟩).2.pinned = [top] ++ m := by
    unfold jkeys
    rw [jtakes, jtake_found (J := ⟨G, [], []⟩) ht]
    exact jtakes_prefix P _ ⟨G, [top], []⟩
  refine sfind_key hfst.1.1.k ?_
  unfold jfill
  rw [hE, hD]
  simp only
  rw [if_neg (by rw [hes]; rcases hp with e | ⟨e, e2⟩ <;> simp [e]; exact e2), if_neg (by rw [hy]; simp)]
  obtain ⟨J, hJ⟩ : ∃ J, (jtakes P (jkeys root es p.large dirty) ⟨G, [], []⟩).2 = J := ⟨_, rfl⟩
  rw [hJ] at hst hpn hpre ⊢
  obtain ⟨m, hm'⟩ := hpre
  have k0 : skey J.G.s.ps top = some ⟨root, 3, 0⟩ := by
    unfold Pins jkeys at hpn
    rw [hm'] at hpn
    simp only [List.nil_append, List.cons_append, List.map_cons, List.cons.injEq] at hpn
    exact hpn.1
  have sl : ∀ (J : JS) (p i dst : Int) (r : Rt), SameK J.G.s (jlink P J root p i dst r).G.s := fun J p i dst r => by
    unfold jlink jlay
    split
    · exact SameK.refl _
    · simp only [if_true]
      exact ((jready_same dst).trans (by rw [gzap_s]; exact SameK.clear _ _ _)).trans (SameK.child _ _ _ _ _)
  have sf : ∀ (J : JS) (p i g : Int) (r : Rt), SameK J.G.s (jleaf P J root p i g r).G.s := fun J p i g r => by
    unfold jleaf jlay
    split
    · exact SameK.refl _
    · simp only [show ((2 : Int) = 1) = False from by simp, if_false]
      exact SameK.trans (b := (gzap J.G p i).2.s) (by rw [gzap_s]; exact SameK.clear _ _ _) (SameK.leaf _ _ _ _ _ _ _)
  rw [(sf _ _ _ _ _).key, (sl _ _ _ _ _).key, (sl _ _ _ _ _).key]
  exact k0
/-- FillDirty -/
theorem fill_dirty {G : GS} (h : FM P24 G) {root page kind : Int} {user : Bool} {p : Path} (hw : wk (rd P24.hosts G.s.mem) P24.hosts.length root page kind user = .ok p) :
    ∃ top, sfind (jfill P24 G root page p false).2.s.ps ⟨root, 3, 0⟩ = some top ∧
      mwalk P24.n (jfill P24 G root page p false).2.s.mem page 3 top Rt.all = some (24 + p.g, ⟨p.r.w && p.dirty && !gprot (jfill P24 G root page p false).2 p.g, p.r.u, p.r.x⟩) ∧
      mwalk P24.n (jfill P24 (jfill P24 G root page p false).2 root page p true).2.s.mem page 3 top Rt.all = some (24 + p.g, ⟨p.r.w && !gprot (jfill P24 (jfill P24 G root page p false).2 root page p true).2 p.g, p.r.u, p.r.x⟩) := by
  obtain ⟨_, top, ht, h1⟩ := fill_finds h hw false
  have hs := jfill_step POk24 h root page p false
  obtain ⟨G1, hG1⟩ : ∃ g, (jfill P24 G root page p false).2 = g := ⟨_, rfl⟩
  rw [hG1] at ht h1 hs ⊢
  obtain ⟨_, top2, ht2, h2⟩ := fill_finds_at hs.fm hw (jes_far POk24 hs.far p.ats) true
  have ht3 := jfill_top POk24 hs.fm (by decide) root page p true (wk_ats hw) ht
  rw [ht3] at ht2
  obtain rfl := Option.some.inj ht2
  refine ⟨top, ht, ?_, ?_⟩
  · rw [h1, Bool.or_false]
  · rw [h2, Bool.or_true, Bool.and_true]
end Go.Proofs.YtglohconhbcchaaGreatDoor

namespace Go.Proofs.YtglohconhbcchaaGreatDoor

/-- the keys of all pages are so -/
def AllK (Q : Key → Prop) (S : SS) : Prop := ∀ p, p ∈ S.ps → Q p.k
theorem AllK.same {Q : Key → Prop} {S S' : SS} (h : AllK Q S) (hk : SameK S S') : AllK Q S' := fun p hp => by
  have : p.k ∈ S'.ps.map Pg.k := List.mem_map_of_mem hp
  rw [hk.keys] at this
  obtain ⟨q, hq, e⟩ := List.mem_map.1 this
  rw [← e]; exact h q hq
theorem AllK.none {Q : Key → Prop} {S : SS} (h : AllK Q S) {k : Key} (hk : ¬ Q k) : sfind S.ps k = none := by
  unfold sfind
  rw [Option.map_eq_none_iff]
  exact List.find?_eq_none.2 fun p hp => by simp; exact fun e => hk (e ▸ h p hp)
theorem gmake_all {P : Pm} {G G' : GS} (hI : GInv P G) {Q : Key → Prop} (h : AllK Q G.s) {k : Key} (hk : Q k) {p : Int} (hn : sfind G.s.ps k = none) (hm : gmake P G k = (some p, G')) : AllK Q G'.s ∧ G'.s.ps.length = G.s.ps.length + 1 := by
  unfold gmake at hm
  rw [hn] at hm
  simp only at hm
  have hs : SameK G.s (gmake1 P G k).s := by
    unfold gmake1
    split
    · exact glook_same _
    · exact SameK.refl _
  have hI1 := gmake1_inv hI k
  cases hsm : smake P (gmake1 P G k).s k with
  | none => rw [hsm] at hm; simp at hm
  | some t =>
    obtain ⟨f, S⟩ := t
    rw [hsm] at hm
    simp only [Prod.mk.injEq, Option.some.injEq] at hm
    obtain ⟨rfl, rfl⟩ := hm
    obtain ⟨m1, m2, m3, ⟨n, b, rfl⟩, m4, m5⟩ := smake_forms hI1.s hsm
    have hq : SameK (smade (gmake1 P G k).s k f n b) (if k.ro = 0 then gforbid P { gmake1 P G k with s := smade (gmake1 P G k).s k f n b } k.g else { gmake1 P G k with s := smade (gmake1 P G k).s k f n b }).s := by
      split
      · exact foldl_keep (fun T : GS => SameK (smade (gmake1 P G k).s k f n b) T.s) (forbid1 P k.g) (fun T a h => h.trans (forbid1_same k.g T a)) _ _ (SameK.refl _)
      · exact SameK.refl _
    refine ⟨AllK.same (fun q hq => ?_) hq, ?_⟩
    · simp only [smade, List.mem_append, List.mem_singleton] at hq
      rcases hq with hq | rfl
      · exact (h.same hs) q hq
      · exact hk
    · rw [same_len hq]
      show ((gmake1 P G k).s.ps ++ [_]).length = _
      rw [List.length_append, same_len hs]; rfl
theorem drop_all {P : Pm} {G : GS} (hI : GInv P G) {Q : Key → Prop} (h : AllK Q G.s) (q : Int) (hq : q ∈ sall G.s.ps) : AllK Q (gdrop G q).2.s ∧ (gdrop G q).2.s.ps.length + 1 = G.s.ps.length := by
  unfold sall at hq
  obtain ⟨pg, hpg, e⟩ := List.mem_map.1 hq
  have hs := find_f hI.s.ndf hpg
  rw [e] at hs
  obtain ⟨_, _, v3⟩ := sdrop_view hI.s hI.k hs
  have hps : (gdrop G q).2.s = (sdrop G.s q).2 := by
    have hk' : skey G.s.ps q = some pg.k := by unfold skey; rw [hs]; rfl
    unfold gdrop
    rw [hk']
    simp only
    split <;> rfl
  rw [hps]
  refine ⟨fun a ha => ?_, ?_⟩
  · have : (a.f, a.k) ∈ (sdrop G.s q).2.ps.map (fun p => (p.f, p.k)) := List.mem_map_of_mem ha
    rw [v3] at this
    obtain ⟨b, hb, eb⟩ := List.mem_map.1 this
    simp only [Prod.mk.injEq] at eb
    rw [← eb.2]; exact h b ((List.mem_filter.1 hb).1)
  · have := congrArg List.length v3
    simp only [List.length_map] at this
    rw [this]
    exact (nodup_split hI.s.ndf hpg e).1
theorem jtake_all {P : Pm} {J : JS} (hI : GInv P J.G) {Q : Key → Prop} (h : AllK Q J.G.s) {k : Key} (hk : Q k) (hn : sfind J.G.s.ps k = none) (ht : (jtake P J k).1 = true) : AllK Q (jtake P J k).2.G.s ∧ (jtake P J k).2.G.s.ps.length = min P.many (J.G.s.ps.length + 1) := by
  have hle : J.G.s.ps.length ≤ P.many := by have := hI.s.cnt; have := hI.s.fr; omega
  have make : ∀ J : JS, GInv P J.G → AllK Q J.G.s → sfind J.G.s.ps k = none → (jmake P J k).1 = true → AllK Q (jmake P J k).2.G.s ∧ (jmake P J k).2.G.s.ps.length = J.G.s.ps.length + 1 := fun J hI h hn ht => by
    unfold jmake at ht ⊢
    cases hg : gmake P J.G k with
    | mk o G' =>
      rw [hg] at ht
      cases o with
      | none => simp at ht
      | some p => exact gmake_all hI h hk hn hg
  unfold jtake at ht ⊢
  rw [hn] at ht ⊢
  simp only at ht ⊢
  by_cases hl : sleft P J.G.s = 0
  · rw [if_pos hl] at ht ⊢
    cases hq : (sall J.G.s.ps).find? (fun p => !J.pinned.contains p) with
    | none => rw [hq] at ht; simp at ht
    | some q =>
      rw [hq] at ht
      simp only at ht ⊢
      obtain ⟨d1, d2⟩ := drop_all hI h q (List.mem_of_find?_eq_some hq)
      have hn' : sfind (gdrop J.G q).2.s.ps k = none := by
        obtain ⟨d3, _⟩ := drop_all hI (Q := fun k' => k' ≠ k) (fun p hp e => by
          unfold sfind at hn
          rw [Option.map_eq_none_iff] at hn
          have := List.find?_eq_none.1 hn p hp
          simp [e] at this) q (List.mem_of_find?_eq_some hq)
        exact d3.none (fun h => h rfl)
      obtain ⟨a1, a2⟩ := make { J with G := (gdrop J.G q).2 } (gdrop_inv hI q) d1 hn' ht
      refine ⟨a1, ?_⟩
      rw [a2]
      unfold sleft at hl
      simp only
      omega
  · rw [if_neg hl] at ht ⊢
    obtain ⟨a1, a2⟩ := make J hI h hn ht
    refine ⟨a1, ?_⟩
    rw [a2]
    unfold sleft at hl
    omega
end Go.Proofs.YtglohconhbcchaaGreatDoor

namespace Go.Proofs.YtglohconhbcchaaGreatDoor

theorem jlink_same {P : Pm} (J : JS) (root p i dst : Int) (r : Rt) : SameK J.G.s (jlink P J root p i dst r).G.s := by
  unfold jlink jlay
  split
  · exact SameK.refl _
  · simp only [if_true]
    exact ((jready_same dst).trans (by rw [gzap_s]; exact SameK.clear _ _ _)).trans (SameK.child _ _ _ _ _)
theorem jleaf_same {P : Pm} (J : JS) (root p i g : Int) (r : Rt) : SameK J.G.s (jleaf P J root p i g r).G.s := by
  unfold jleaf jlay
  split
  · exact SameK.refl _
  · simp only [show ((2 : Int) = 1) = False from by simp, if_false]
    exact SameK.trans (b := (gzap J.G p i).2.s) (by rw [gzap_s]; exact SameK.clear _ _ _) (SameK.leaf _ _ _ _ _ _ _)
theorem wk_ats1 {P : Pm} {G : GS} {root page kind : Int} {user : Bool} {p : Path} (h : wk (rd P.hosts G.s.mem) P.hosts.length root page kind user = .ok p) : (p.ats.getD 1 (0, 0)).1 = (((jes P G p.ats).getD 0 pte0).f : Int) := by
  have ho : out (wk (rd P.hosts G.s.mem) P.hosts.length root page kind user) = (p, 0, 0) := by rw [h]; rfl
  obtain ⟨hs, _, hg, hp, _⟩ := wk_found ho
  rcases steps_forms hs with ⟨s3, s2, hl, e3, e2, _⟩ | ⟨s3, s2, s1, hl, e3, e2, _⟩
  · rw [hp, hl]
    subst e3 e2
    rfl
  · rw [hp, hl]
    subst e3 e2
    rfl
/-- a Fill among pages of the level 3 alone, of other roots -/
theorem pool_fill {G : GS} (h : FM P24 G) (hQ : AllK (fun k => k.lv = 3 ∧ 100 < k.g) G.s) {page kind : Int} {user : Bool} {p : Path} (hw : wk (rd P24.hosts G.s.mem) P24.hosts.length 1 page kind user = .ok p) :
    (jfill P24 G 1 page p false).1.2 = true ∧ (∃ top, sfind (jfill P24 G 1 page p false).2.s.ps ⟨1, 3, 0⟩ = some top ∧ 4 ≤ top) ∧
      (sfind (jfill P24 G 1 page p false).2.s.ps ⟨(p.ats.getD 1 (0, 0)).1, 2, 0⟩).isSome = true ∧ (jfill P24 G 1 page p false).2.s.ps.length = min 8 (G.s.ps.length + 3) := by
  obtain ⟨hy, hF⟩ := jfill_filled POk24 h (by decide) 1 page p false (wk_ats hw)
  refine ⟨hy, ?_, ?_, ?_⟩
  · obtain ⟨hf, p0, p1, p2, k0, k1, k2, _⟩ := hF
    obtain ⟨pg, q1, q2, _⟩ := skey_some k0
    have := hf.1.1.s.pos pg q1
    rw [q2] at this
    exact ⟨p0, sfind_key hf.1.1.k k0, this.1⟩
  · obtain ⟨hf, p0, p1, p2, k0, k1, k2, _⟩ := hF
    rw [wk_ats1 hw, sfind_key hf.1.1.k k1]; rfl
  · have hes : (jes P24 G p.ats).length = p.ats.length := by unfold jes; rw [List.length_map]
    obtain ⟨es, hE⟩ : ∃ es, jes P24 G p.ats = es := ⟨_, rfl⟩
    rw [hE] at hes
    have hkr : ∀ k, k ∈ jkeys 1 es p.large (p.dirty || false) → kright k = true := fun k hk => by
      unfold jkeys at hk
      simp only [List.mem_cons, List.not_mem_nil, or_false] at hk
      rcases hk with rfl | rfl | rfl
      · rfl
      · rfl
      · unfold jlow
        cases p.large <;> cases (p.dirty || false) <;> rfl
    have hlow : (jlow es p.large (p.dirty || false)).1.lv = 1 := by unfold jlow; cases p.large <;> rfl
    have hk3 := hkr (jlow es p.large (p.dirty || false)).1 (by unfold jkeys; simp)
    -- the three takes
    obtain ⟨a1, a2, a3⟩ := jtake_yes (P := P24) (J := ⟨G, [], []⟩) h.1.1 (k := ⟨1, 3, 0⟩) rfl (show (0 : Nat) < 8 by decide)
    obtain ⟨a4, a5⟩ := jtake_all (P := P24) (J := ⟨G, [], []⟩) h.1.1 (Q := fun k => k.lv = 3) (fun q hq => (hQ q hq).1) (k := ⟨1, 3, 0⟩) rfl (hQ.none (fun hc => by simp at hc)) a1
    obtain ⟨J1, hJ1⟩ : ∃ J, (jtake P24 ⟨G, [], []⟩ ⟨1, 3, 0⟩).2 = J := ⟨_, rfl⟩
    rw [hJ1] at a2 a3 a4 a5
    obtain ⟨b1, b2, b3⟩ := jtake_yes (P := P24) (J := J1) a2 (k := ⟨((es.getD 0 pte0).f : Int), 2, 0⟩) rfl (by rw [a3]; exact (show (1 : Nat) < 8 by decide))
    obtain ⟨b4, b5⟩ := jtake_all (P := P24) (J := J1) a2 (Q := fun k => 2 ≤ k.lv) (fun q hq => by have := a4 q hq; simp only at this; omega) (k := ⟨((es.getD 0 pte0).f : Int), 2, 0⟩) (show (2 : Int) ≤ 2 by decide) (a4.none (fun hc => by simp at hc)) b1
    obtain ⟨J2, hJ2⟩ : ∃ J, (jtake P24 J1 ⟨((es.getD 0 pte0).f : Int), 2, 0⟩).2 = J := ⟨_, rfl⟩
    rw [hJ2] at b2 b3 b4 b5
    obtain ⟨c1, c2, c3⟩ := jtake_yes (P := P24) (J := J2) b2 (k := (jlow es p.large (p.dirty || false)).1) hk3 (by rw [b3, a3]; exact (show (2 : Nat) < 8 by decide))
    obtain ⟨_, c5⟩ := jtake_all (P := P24) (J := J2) b2 (Q := fun _ => True) (fun _ _ => trivial) (k := (jlow es p.large (p.dirty || false)).1) trivial (b4.none (fun hc => by rw [hlow] at hc; omega)) c1
    have ht : jtakes P24 (jkeys 1 es p.large (p.dirty || false)) ⟨G, [], []⟩ = (true, (jtake P24 J2 (jlow es p.large (p.dirty || false)).1).2) := by
      unfold jkeys
      rw [jtakes, if_pos a1, hJ1, jtakes, if_pos b1, hJ2, jtakes, if_pos c1]
      rfl
    unfold jfill
    rw [hE]
    simp only
    rw [if_neg (by rw [hes]; rcases wk_ats hw with e | ⟨e, e2⟩ <;> simp [e]; exact e2), ht]
    simp only [Bool.true_eq_false, if_false]
    rw [same_len (jleaf_same _ _ _ _ _ _), same_len (jlink_same _ _ _ _ _ _), same_len (jlink_same _ _ _ _ _ _), c5, b5, a5]
    show min 8 (min 8 (min 8 (G.s.ps.length + 1) + 1) + 1) = _
    omega
/-- a page that is made by the store alone, of a root that nobody has -/
theorem pool_make {G : GS} (h : FM P24 G) (hlo : G.loose = []) (hQ : AllK (fun k => k.lv = 3 ∧ (100 : Int) + sleft P24 G.s < k.g) G.s) (hl : 0 < sleft P24 G.s) :
    ∃ f S, smake P24 G.s ⟨100 + sleft P24 G.s, 3, 0⟩ = some (f, S) ∧ FM P24 { G with s := S } ∧ AllK (fun k => k.lv = 3 ∧ (100 : Int) + sleft P24 S < k.g) S ∧ sleft P24 S + 1 = sleft P24 G.s := by
  have hn : sfind G.s.ps ⟨100 + sleft P24 G.s, 3, 0⟩ = none := hQ.none (fun hc => by simp at hc)
  obtain ⟨f, S, e⟩ := smake_some h.1.1.s hn rfl (by unfold sleft at hl; omega)
  obtain ⟨m1, m2, m3, ⟨n, b, rfl⟩, m4, m5⟩ := smake_forms h.1.1.s e
  have hlen : (smade G.s ⟨100 + sleft P24 G.s, 3, 0⟩ f n b).ps.length = G.s.ps.length + 1 := by
    show (G.s.ps ++ [_]).length = _
    rw [List.length_append]; rfl
  have hleft : sleft P24 (smade G.s ⟨100 + sleft P24 G.s, 3, 0⟩ f n b) + 1 = sleft P24 G.s := by
    have e1 : sleft P24 (smade G.s ⟨100 + sleft P24 G.s, 3, 0⟩ f n b) = P24.many - (G.s.ps.length + 1) := by
      show P24.many - (smade G.s ⟨100 + sleft P24 G.s, 3, 0⟩ f n b).ps.length = _
      rw [hlen]
    rw [e1]
    unfold sleft at hl ⊢
    omega
  refine ⟨f, _, e, ⟨⟨⟨smake_inv h.1.1.s e, h.1.1.k.made m3 m1 m2, by rw [show ({ G with s := smade G.s ⟨100 + sleft P24 G.s, 3, 0⟩ f n b } : GS).loose = [] from hlo]; exact List.nodup_nil, fun g hg => by rw [show ({ G with s := smade G.s ⟨100 + sleft P24 G.s, 3, 0⟩ f n b } : GS).loose = [] from hlo] at hg; simp at hg⟩, ?_⟩, h.2.made h.1.1.s m3 ⟨m4, m5⟩⟩, fun q hq => ?_, hleft⟩
  · intro f' i x hx h2 hw
    change sslot (smade G.s ⟨100 + sleft P24 G.s, 3, 0⟩ f n b).ps f' i = some x at hx
    rw [sslot_made m3] at hx
    split at hx
    · split at hx
      · rw [← Option.some.inj hx] at h2; simp [slt0] at h2
      · simp at hx
    · have hx' := hx
      rcases h.1.1.k.sk f' i x hx with e1 | ⟨e1, _⟩ | ⟨_, e1⟩
      · rw [e1] at h2; simp [slt0] at h2
      · rw [e1] at h2; simp at h2
      · exfalso
        obtain ⟨k', hk'⟩ := sslot_key hx'
        obtain ⟨pg, q1, q2, q3, _⟩ := skey_some hk'
        have := (hQ pg q1).1
        unfold lvOf at e1
        rw [hk'] at e1
        simp only [Option.getD_some] at e1
        rw [q3] at this
        omega
  · simp only [smade, List.mem_append, List.mem_singleton] at hq
    rcases hq with hq | rfl
    · have := hQ q hq
      exact ⟨this.1, by omega⟩
    · exact ⟨rfl, by simp only; omega⟩
end Go.Proofs.YtglohconhbcchaaGreatDoor
