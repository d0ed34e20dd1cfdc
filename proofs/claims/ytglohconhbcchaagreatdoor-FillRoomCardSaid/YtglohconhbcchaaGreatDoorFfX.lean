/- Layer 17: FillAnew's plain law. No program stands here. Layer 17: FillAnew's plain law, whole. No program stands here. Layer 17: FillAnew's plain law: a page that is not told anew is found as before, with no more rights, or not at all. No program stands here. Layer 17: where the laws begin, and that each operation keeps it. No program stands here. -/
import Derived.Test.YtglohconhbcchaaGreatDoorFfP
import Derived.Test.YtglohconhbcchaaGreatDoorGReP
namespace Go.Proofs.YtglohconhbcchaaGreatDoor

/-- does one find no more than another one? -/
def Wle (a b : Option (Int × Rt)) : Prop := a = none ∨ ∃ x r r0, a = some (x, r) ∧ b = some (x, r0) ∧ (r.w = true → r0.w = true) ∧ (r.u = true → r0.u = true) ∧ (r.x = true → r0.x = true)
theorem Wle.refl (a : Option (Int × Rt)) : Wle a a := by
  cases a with
  | none => exact .inl rfl
  | some p => exact .inr ⟨p.1, p.2, p.2, rfl, rfl, id, id, id⟩
theorem Wle.trans {a b c : Option (Int × Rt)} (h : Wle a b) (k : Wle b c) : Wle a c := by
  rcases h with h | ⟨x, r, r0, h1, h2, h3, h4, h5⟩
  · exact .inl h
  · rcases k with k | ⟨y, s, s0, k1, k2, k3, k4, k5⟩
    · rw [k] at h2; cases h2
    · rw [h2] at k1
      obtain ⟨rfl, rfl⟩ := Prod.mk.inj (Option.some.inj k1)
      exact .inr ⟨x, r, s0, h1, k2, fun z => k3 (h3 z), fun z => k4 (h4 z), fun z => k5 (h5 z)⟩
/-- one slot is no more than another one: the same, none, or a leaf with fewer rights -/
def Sle (x y : Slt) : Prop := x = y ∨ x.kind = 0 ∨ (x.kind = 2 ∧ y.kind = 2 ∧ x.dst = y.dst ∧ (x.r.w = true → y.r.w = true) ∧ (x.r.u = true → y.r.u = true) ∧ (x.r.x = true → y.r.x = true))
def Rle (r r0 : Rt) : Prop := (r.w = true → r0.w = true) ∧ (r.u = true → r0.u = true) ∧ (r.x = true → r0.x = true)
theorem Rle.meet {a b c d : Rt} (h : Rle a b) (k : Rle c d) : Rle (a.meet c) (b.meet d) := by
  unfold Rle Rt.meet at *
  simp only [Bool.and_eq_true]
  exact ⟨fun z => ⟨h.1 z.1, k.1 z.2⟩, fun z => ⟨h.2.1 z.1, k.2.1 z.2⟩, fun z => ⟨h.2.2 z.1, k.2.2 z.2⟩⟩
theorem Rle.refl (r : Rt) : Rle r r := ⟨id, id, id⟩
theorem meet_le {r r0 s s0 : Rt} (h : Rle r r0) (hs : (s.w = true → s0.w = true) ∧ (s.u = true → s0.u = true) ∧ (s.x = true → s0.x = true)) : Rle (r.meet s) (r0.meet s0) := h.meet hs
/-- a walk by slots that are no more than others, but at a place that it does not pass -/
theorem swalk_le {P : Pm} {ps ps' : List Pg} {page : Int} {p i : Int} (hk : ∀ f j x, sslot ps' f j = some x → SlotOk ps' (lvOf ps' f) x)
    (hs : ∀ f j x', sslot ps' f j = some x' → (f = p ∧ j = i) ∨ x'.kind = 0 ∨ ∃ x, sslot ps f j = some x ∧ Sle x' x) :
    ∀ (lv : Nat) (f : Int) (may may0 : Rt), Rle may may0 → (lv = 0 ∨ lvOf ps' f = (lv : Int)) → rpass ps' p i page lv f true = false →
      Wle (swalk P ps' page lv f may) (swalk P ps page lv f may0) := by
  intro lv
  induction lv with
  | zero => exact fun f may may0 h _ _ => .inr ⟨f, may, may0, rfl, rfl, h.1, h.2.1, h.2.2⟩
  | succ lv ih =>
    intro f may may0 h hlv hp
    have hl := hlv.resolve_left (by omega)
    rw [swalk]
    cases hx' : sslot ps' f (ix page ((lv + 1 : Nat) : Int)) with
    | none => exact .inl rfl
    | some x' =>
      simp only
      by_cases h0 : x'.kind = 0
      · rw [if_pos h0]; exact .inl rfl
      · rw [if_neg h0]
        rw [rpass, Bool.true_and, hx'] at hp
        simp only [Option.getD_some, Bool.or_eq_false_iff, Bool.and_eq_false_iff, decide_eq_false_iff_not] at hp
        rcases hs f _ x' hx' with ⟨e1, e2⟩ | e | ⟨x, hx, hle⟩
        · rcases hp.1 with h1 | h1
          · exact (h1 e1).elim
          · exact (h1 e2).elim
        · exact (h0 e).elim
        · rw [swalk, hx]
          simp only
          rcases hk f _ x' hx' with e | ⟨h1, k', hk1, hk2⟩ | ⟨h2, hl1⟩
          · rw [e] at h0; exact (h0 rfl).elim
          · -- a child
            have hxe : x' = x := by
              rcases hle with e | e | ⟨e1, _⟩
              · exact e
              · exact (h0 e).elim
              · omega
            subst hxe
            rw [if_neg h0]
            rw [decide_eq_true h1] at hp
            have hh : hostOf P x' = x'.dst := by unfold hostOf; rw [if_neg (by omega)]
            rw [hh]
            refine ih x'.dst _ _ (h.meet (Rle.refl _)) (.inr ?_) hp.2
            unfold lvOf
            rw [hk1]
            simp only [Option.getD_some]
            rw [hk2, hl]; omega
          · -- a leaf
            have hlv0 : lv = 0 := by rw [hl1] at hl; omega
            subst hlv0
            rcases hle with e | e | ⟨e1, e2, e3, e4⟩
            · subst e
              rw [if_neg h0]
              have hm := h.meet (Rle.refl x'.r)
              exact .inr ⟨_, _, _, rfl, rfl, hm.1, hm.2.1, hm.2.2⟩
            · exact (h0 e).elim
            · rw [if_neg (by omega)]
              have hh : hostOf P x' = hostOf P x := by unfold hostOf; rw [if_pos e1, if_pos e2, e3]
              rw [hh]
              have hm : Rle (may.meet x'.r) (may0.meet x.r) := h.meet e4
              exact .inr ⟨_, _, _, rfl, rfl, hm.1, hm.2.1, hm.2.2⟩
theorem rpass_out (ps : List Pg) (p n : Int) : ∀ (lv : Nat) (f : Int) (b : Bool), rpass ps p (-1) n lv f b = false := by
  intro lv
  induction lv with
  | zero => exact fun _ _ => rfl
  | succ lv ih =>
    intro f b
    have hi := ix_in n ((lv + 1 : Nat) : Int)
    rw [rpass, ih, Bool.or_false, decide_eq_false (show ¬ ix n ((lv + 1 : Nat) : Int) = -1 by omega), Bool.and_false, Bool.and_false]
/-- the walk from a root's page on -/
def rwalk (P : Pm) (G : GS) (root n : Int) : Option (Int × Rt) := (sfind G.s.ps ⟨root, 3, 0⟩).bind fun t => swalk P G.s.ps n 3 t Rt.all
/-- slots that are no more, and the same root's page: no more is found -/
theorem rwalk_le {P : Pm} {G G' : GS} (hI : GInv P G') {root n p i : Int} (hr : ∀ t, sfind G'.s.ps ⟨root, 3, 0⟩ = some t → sfind G.s.ps ⟨root, 3, 0⟩ = some t ∨ ∀ j x, sslot G'.s.ps t j = some x → x.kind = 0)
    (hs : ∀ f j x', sslot G'.s.ps f j = some x' → (f = p ∧ j = i) ∨ x'.kind = 0 ∨ ∃ x, sslot G.s.ps f j = some x ∧ Sle x' x)
    (hp : ∀ t, sfind G'.s.ps ⟨root, 3, 0⟩ = some t → rpass G'.s.ps p i n 3 t true = false) : Wle (rwalk P G' root n) (rwalk P G root n) := by
  unfold rwalk
  cases ht : sfind G'.s.ps ⟨root, 3, 0⟩ with
  | none => exact .inl rfl
  | some t =>
    simp only [Option.bind_some]
    have hkt : skey G'.s.ps t = some ⟨root, 3, 0⟩ := (gmake_keys hI (k := ⟨root, 3, 0⟩) (p := t) (G' := G') (by unfold gmake; rw [ht])).1
    rcases hr t ht with h | h
    · rw [h]
      simp only [Option.bind_some]
      exact swalk_le hI.k.sk hs 3 t _ _ (Rle.refl _) (.inr (by unfold lvOf; rw [hkt]; rfl)) (hp t ht)
    · rw [swalk]
      cases hx : sslot G'.s.ps t (ix n ((2 + 1 : Nat) : Int)) with
      | none => exact .inl rfl
      | some x =>
        simp only
        rw [if_pos (h _ x hx)]
        exact .inl rfl
end Go.Proofs.YtglohconhbcchaaGreatDoor

namespace Go.Proofs.YtglohconhbcchaaGreatDoor

theorem key_of_find {P : Pm} {G : GS} (hI : GInv P G) {k : Key} {t : Int} (h : sfind G.s.ps k = some t) : skey G.s.ps t = some k := (gmake_keys hI (k := k) (p := t) (G' := G) (by unfold gmake; rw [h])).1
/-- steps that put no slot -/
theorem rwalk_same {P : Pm} {G G' : GS} (hI : GInv P G') (root n : Int) (hk : SameK G.s G'.s) (hs : ∀ f j x', sslot G'.s.ps f j = some x' → x'.kind = 0 ∨ ∃ x, sslot G.s.ps f j = some x ∧ Sle x' x) : Wle (rwalk P G' root n) (rwalk P G root n) :=
  rwalk_le (p := 0) (i := -1) hI (fun t h => .inl (by rw [hk.find] at h; exact h)) (fun f j x' h => .inr (hs f j x' h)) (fun t _ => rpass_out _ _ _ _ _ _)
theorem noW_le (g : Int) (x : Slt) : Sle (noW g x) x := by
  unfold noW
  split
  · rename_i h
    exact .inr (.inr ⟨h.1, h.1, rfl, (fun h => by simp at h), id, id⟩)
  · exact .inl rfl
theorem glook_walk {P : Pm} (hP : POk P) {G : GS} (hI : GInv P G) (g root n : Int) : Wle (rwalk P (glook P G g).2 root n) (rwalk P G root n) := by
  by_cases hg : G.loose.contains g = true
  · obtain ⟨q, _, hq, _, _⟩ := lo_g hI g hg
    obtain ⟨_, _, _, v4, _, _, v7⟩ := glook_view hP hI g hg q hq
    refine rwalk_same (glook_inv hI g) root n v4 fun f j x' hx' => ?_
    rw [v7] at hx'
    cases hx : sslot G.s.ps f j with
    | none => rw [hx] at hx'; simp at hx'
    | some x =>
      rw [hx] at hx'
      simp only [Option.map_some, Option.some.injEq] at hx'
      split at hx'
      · unfold keepE at hx'
        split at hx'
        · left; rw [← hx']; rfl
        · right; exact ⟨x, rfl, hx' ▸ noW_le g x⟩
      · right; exact ⟨x, rfl, hx' ▸ noW_le g x⟩
  · have e : (glook P G g).2 = G := by unfold glook; rw [if_neg hg]
    rw [e]; exact Wle.refl _
theorem gzap_walk {P : Pm} {G : GS} (hI : GInv P G) (p i root n : Int) : Wle (rwalk P (gzap G p i).2 root n) (rwalk P G root n) := by
  refine rwalk_same (gzap_inv hI p i) root n (by rw [gzap_s]; exact SameK.clear _ _ _) fun f j x' hx' => ?_
  rw [zap_slot hI] at hx'
  split at hx'
  · cases hx : sslot G.s.ps f j with
    | none => rw [hx] at hx'; simp at hx'
    | some x =>
      rw [hx] at hx'
      simp only [Option.map_some, Option.some.injEq] at hx'
      left; rw [← hx']; rfl
  · exact .inr ⟨x', hx', .inl rfl⟩
theorem gdrop_walk {P : Pm} {G : GS} (hI : GInv P G) (q root n : Int) : Wle (rwalk P (gdrop G q).2 root n) (rwalk P G root n) := by
  cases hk : skey G.s.ps q with
  | none =>
    have e : (gdrop G q).2 = G := by unfold gdrop; rw [hk]
    rw [e]; exact Wle.refl _
  | some k =>
    obtain ⟨pg, hpg, hpf, hpk, hs⟩ := skey_some hk
    obtain ⟨v1, v2, _⟩ := sdrop_view hI.s hI.k hs
    have hps : (gdrop G q).2.s = (sdrop G.s q).2 := by
      unfold gdrop
      rw [hk]
      simp only
      split <;> rfl
    refine rwalk_le (p := 0) (i := -1) (gdrop_inv hI q) (fun t h => ?_) (fun f j x' h => ?_) (fun t _ => rpass_out _ _ _ _ _ _)
    · have hkt := key_of_find (gdrop_inv hI q) h
      rw [hps, v2] at hkt
      split at hkt
      · simp at hkt
      · exact .inl (sfind_key hI.k hkt)
    · rw [hps, v1] at h
      split at h
      · simp at h
      · cases hx : sslot G.s.ps f j with
        | none => rw [hx] at h; simp at h
        | some x =>
          rw [hx] at h
          simp only [Option.map_some, Option.some.injEq] at h
          split at h
          · right; left; rw [← h]; rfl
          · right; right; exact ⟨x, rfl, .inl h.symm⟩
theorem gmake_walk {P : Pm} (hP : POk P) {G : GS} (hI : GInv P G) (k : Key) (root n : Int) : Wle (rwalk P (gmake P G k).2 root n) (rwalk P G root n) := by
  have h1 : Wle (rwalk P (gmake1 P G k) root n) (rwalk P G root n) := by
    unfold gmake1
    split
    · exact glook_walk hP hI _ _ _
    · exact Wle.refl _
  have hI1 := gmake1_inv hI k
  have hI2 := gmake_inv hI k
  unfold gmake at hI2 ⊢
  cases hf : sfind G.s.ps k with
  | some p => exact Wle.refl _
  | none =>
    rw [hf] at hI2
    simp only at hI2 ⊢
    cases hm : smake P (gmake1 P G k).s k with
    | none => exact h1
    | some t =>
      obtain ⟨f, S⟩ := t
      rw [hm] at hI2
      simp only at hI2 ⊢
      obtain ⟨m1, m2, m3, ⟨nn, b, rfl⟩, m4, m5⟩ := smake_forms hI1.s hm
      refine Wle.trans ?_ h1
      obtain ⟨G1, hG1⟩ : ∃ g, gmake1 P G k = g := ⟨_, rfl⟩
      rw [hG1] at hI1 m1 m3 hI2 hm ⊢
      have i1 : SInv P ({ G1 with s := smade G1.s k f nn b } : GS).s := smake_inv hI1.s hm
      have i2 : SOk ({ G1 with s := smade G1.s k f nn b } : GS).s := hI1.k.made m3 m1 m2
      -- slots and keys of the state behind
      have hv : ∀ f' j x', sslot (if k.ro = 0 then gforbid P { G1 with s := smade G1.s k f nn b } k.g else { G1 with s := smade G1.s k f nn b }).s.ps f' j = some x' → (∃ x, sslot (smade G1.s k f nn b).ps f' j = some x ∧ Sle x' x) := fun f' j x' h => by
        split at h
        · rw [(gforbid_view hP i1 i2 k.g).1] at h
          change Option.map (noW k.g) (sslot (smade G1.s k f nn b).ps f' j) = some x' at h
          cases hx : sslot (smade G1.s k f nn b).ps f' j with
          | none => rw [hx] at h; simp at h
          | some x =>
            rw [hx] at h
            simp only [Option.map_some, Option.some.injEq] at h
            exact ⟨x, rfl, h ▸ noW_le _ x⟩
        · exact ⟨x', h, .inl rfl⟩
      have hkk : ∀ f', skey (if k.ro = 0 then gforbid P { G1 with s := smade G1.s k f nn b } k.g else { G1 with s := smade G1.s k f nn b }).s.ps f' = if f' = f then some k else skey G1.s.ps f' := fun f' => by
        rw [← skey_made m3 (n := nn) (b := b) (k := k)]
        split
        · exact (gforbid_view hP i1 i2 k.g).2.2.2.key f'
        · rfl
      refine rwalk_le (p := 0) (i := -1) hI2 (fun t h => ?_) (fun f' j x' h => ?_) (fun t _ => rpass_out _ _ _ _ _ _)
      · have hkt := key_of_find hI2 h
        rw [hkk] at hkt
        split at hkt
        · rename_i e
          right
          intro j x hx
          obtain ⟨y, hy, hle⟩ := hv t j x hx
          rw [sslot_made m3, if_pos e] at hy
          split at hy
          · have hy0 : slt0 = y := Option.some.inj hy
            subst hy0
            rcases hle with e | e | ⟨_, e, _⟩
            · rw [e]; rfl
            · exact e
            · simp [slt0] at e
          · simp at hy
        · exact .inl (sfind_key hI1.k hkt)
      · obtain ⟨y, hy, hle⟩ := hv f' j x' h
        rw [sslot_made m3] at hy
        split at hy
        · split at hy
          · have hy0 : slt0 = y := Option.some.inj hy
            subst hy0
            rcases hle with e | e | ⟨_, e, _⟩
            · right; left; rw [e]; rfl
            · right; left; exact e
            · simp [slt0] at e
          · simp at hy
        · right; right; exact ⟨y, hy, hle⟩
end Go.Proofs.YtglohconhbcchaaGreatDoor

namespace Go.Proofs.YtglohconhbcchaaGreatDoor

theorem step_walk {P : Pm} {G2 G3 : GS} (hI : GInv P G3) (hk : SameK G2.s G3.s) {root p : Int} {k n : Nat} (hk8 : k < 8) (hn : n < 512) (hs : ∀ f j x', sslot G3.s.ps f j = some x' → (f = p ∧ j = (k : Int)) ∨ sslot G2.s.ps f j = some x')
    (hno : (n : Int) ∉ greach G3.s.ps root p (k : Int)) : Wle (rwalk P G3 root (n : Int)) (rwalk P G2 root (n : Int)) := by
  refine rwalk_le (p := p) (i := (k : Int)) hI (fun t h => .inl (by rw [hk.find] at h; exact h)) (fun f j x' h => ?_) (fun t ht => ?_)
  · rcases hs f j x' h with e | e
    · exact .inl e
    · exact .inr (.inr ⟨x', e, .inl rfl⟩)
  · have := greach_mem (ps := G3.s.ps) root p t k n hk8 hn ht
    rw [← this]
    refine List.any_eq_false.2 fun x hx => ?_
    simp only [decide_eq_true_eq]
    exact fun e => hno (e ▸ hx)
theorem jlook_walk {P : Pm} (hP : POk P) {G : GS} (hI : GInv P G) (p root n : Int) : Wle (rwalk P (jlook P G p) root n) (rwalk P G root n) := by
  unfold jlook
  split
  · exact glook_walk hP hI _ _ _
  · exact Wle.refl _
theorem jready_walk {P : Pm} (hP : POk P) {G : GS} (h : FM P G) (p root n : Int) : Wle (rwalk P (jready P G p) root n) (rwalk P G root n) := by
  unfold jready
  split
  · exact jlook_walk hP h.1.1 _ _ _
  · split
    · exact (foldl_keep (fun T : GS => FM P T ∧ Wle (rwalk P T root n) (rwalk P G root n)) (jkid P p) (fun T j h => by
        unfold jkid
        split
        · exact ⟨(jlook_step hP h.1 _).fm, (jlook_walk hP h.1.1.1 _ _ _).trans h.2⟩
        · exact h) _ _ ⟨h, Wle.refl _⟩).2
    · exact Wle.refl _
theorem ix_nat (page l : Int) : ∃ k : Nat, k < 8 ∧ ix page l = (k : Int) := ⟨(ix page l).toNat, by have := ix_in page l; omega, by have := ix_in page l; omega⟩
theorem jlink_walk {P : Pm} (hP : POk P) {J : JS} (h : FM P J.G) (root p page l dst : Int) (r : Rt) {n : Nat} (hn : n < 512) (hno : (n : Int) ∉ (jlink P J root p (ix page l) dst r).anew) :
    Wle (rwalk P (jlink P J root p (ix page l) dst r).G root (n : Int)) (rwalk P J.G root (n : Int)) ∧ (n : Int) ∉ J.anew := by
  obtain ⟨k, hk8, hk⟩ := ix_nat page l
  rw [hk] at hno ⊢
  unfold jlink jlay at hno ⊢
  split at hno
  · rename_i e
    rw [if_pos e]
    exact ⟨Wle.refl _, hno⟩
  · rename_i e
    rw [if_neg e]
    simp only [if_true, List.mem_append, not_or] at hno ⊢
    refine ⟨?_, hno.1⟩
    have h1 := jready_step hP h dst
    have h2 := h1.trans (gzap_step h1.fm p (k : Int))
    have w1 := (gzap_walk h1.fm.1.1 p (k : Int) root (n : Int)).trans (jready_walk hP h dst root (n : Int))
    obtain ⟨T, hT⟩ : ∃ T, (gzap (jready P J.G dst) p (k : Int)).2 = T := ⟨_, rfl⟩
    rw [hT] at h2 w1 hno ⊢
    refine Wle.trans ?_ w1
    refine step_walk (p := p) (k := k) (gchild_inv h2.fm.1.1 _ _ _ _) (SameK.child _ _ _ _ _) hk8 hn (fun f j x' hx => ?_) hno.2
    change sslot (schild T.s p (k : Int) dst r).2.ps f j = some x' at hx
    unfold schild at hx
    split at hx
    · rename_i y _ hy _
      split at hx
      · rw [sput_view h2.fm.1.1.s (sslot_some hy).1] at hx
        split at hx
        · rename_i e; exact .inl e
        · exact .inr hx
      · exact .inr hx
    · exact .inr hx
theorem jleaf_walk {P : Pm} (_hP : POk P) {J : JS} (h : FM P J.G) (root p page l g : Int) (r : Rt) {n : Nat} (hn : n < 512) (hno : (n : Int) ∉ (jleaf P J root p (ix page l) g r).anew) :
    Wle (rwalk P (jleaf P J root p (ix page l) g r).G root (n : Int)) (rwalk P J.G root (n : Int)) ∧ (n : Int) ∉ J.anew := by
  obtain ⟨k, hk8, hk⟩ := ix_nat page l
  rw [hk] at hno ⊢
  unfold jleaf jlay at hno ⊢
  split at hno
  · rename_i e
    rw [if_pos e]
    exact ⟨Wle.refl _, hno⟩
  · rename_i e
    rw [if_neg e]
    simp only [show ((2 : Int) = 1) = False from by simp, if_false, List.mem_append, not_or] at hno ⊢
    refine ⟨?_, hno.1⟩
    have h2 := gzap_step h p (k : Int)
    have w1 := gzap_walk h.1.1 p (k : Int) root (n : Int)
    obtain ⟨T, hT⟩ : ∃ T, (gzap J.G p (k : Int)).2 = T := ⟨_, rfl⟩
    rw [hT] at h2 w1 hno ⊢
    refine Wle.trans ?_ w1
    refine step_walk (p := p) (k := k) (gleaf_inv h2.fm.1.1 _ _ _ _ _) (SameK.leaf _ _ _ _ _ _ _) hk8 hn (fun f j x' hx => ?_) hno.2
    change sslot (sleaf P.n T.s p (k : Int) g (((ghost P g).getD 0 : Nat) : Int) r).2.ps f j = some x' at hx
    unfold sleaf at hx
    split at hx
    · rename_i y hy
      split at hx
      · rw [sput_view h2.fm.1.1.s (sslot_some hy).1] at hx
        split at hx
        · rename_i e; exact .inl e
        · exact .inr hx
      · exact .inr hx
    · exact .inr hx
theorem jmake_walk {P : Pm} (hP : POk P) {J : JS} (h : FM P J.G) (k : Key) (root n : Int) : Wle (rwalk P (jmake P J k).2.G root n) (rwalk P J.G root n) := by
  have h1 := gmake_walk hP h.1.1 k root n
  unfold jmake
  split
  · rename_i e; rw [e] at h1; exact h1
  · rename_i e; rw [e] at h1; exact h1
theorem jtake_walk {P : Pm} (hP : POk P) {J : JS} (h : FM P J.G) (k : Key) (root n : Int) : Wle (rwalk P (jtake P J k).2.G root n) (rwalk P J.G root n) := by
  unfold jtake
  split
  · exact Wle.refl _
  · split
    · split
      · exact Wle.refl _
      · rename_i q _
        exact (jmake_walk hP (J := { J with G := (gdrop J.G q).2 }) ⟨⟨gdrop_inv h.1.1 q, h.1.2.drop h.1.1 q⟩, gdrop_mok h.2 h.1.1 q⟩ k root n).trans (gdrop_walk h.1.1 q root n)
    · exact jmake_walk hP h k root n
theorem jtakes_walk {P : Pm} (hP : POk P) (root n : Int) : ∀ (l : List Key) {J : JS}, FM P J.G → Wle (rwalk P (jtakes P l J).2.G root n) (rwalk P J.G root n)
  | [], _, _ => Wle.refl _
  | k :: r, J, h => by
    rw [jtakes]
    split
    · exact (jtakes_walk hP root n r (jtake_step hP h k).fm).trans (jtake_walk hP h k root n)
    · exact jtake_walk hP h k root n
/-- FillAnew -/
theorem fill_anew {P : Pm} (hP : POk P) {G : GS} (h : FM P G) (root page : Int) (p : Path) (written : Bool) {n : Nat} (hn : n < 512) (hno : (n : Int) ∉ (jfill P G root page p written).1.1) :
    Wle (rwalk P (jfill P G root page p written).2 root (n : Int)) (rwalk P G root (n : Int)) := by
  unfold jfill at hno ⊢
  simp only at hno ⊢
  split at hno
  · rename_i e; rw [if_pos e]; exact Wle.refl _
  · rename_i e
    rw [if_neg e]
    split at hno
    · rename_i e2
      rw [if_pos e2]
      exact jtakes_walk hP root (n : Int) _ (J := ⟨G, [], []⟩) h
    · rename_i e2
      rw [if_neg e2]
      have h0 := jtakes_step hP (jkeys root (jes P G p.ats) p.large (p.dirty || written)) (J := ⟨G, [], []⟩) h
      have w0 := jtakes_walk hP root (n : Int) (jkeys root (jes P G p.ats) p.large (p.dirty || written)) (J := ⟨G, [], []⟩) h
      obtain ⟨J, hJ⟩ : ∃ J, jtakes P (jkeys root (jes P G p.ats) p.large (p.dirty || written)) ⟨G, [], []⟩ = J := ⟨_, rfl⟩
      rw [hJ] at h0 w0 hno ⊢
      have h1 := jlink_step hP h0.fm root (J.2.pinned.getD 0 0) (ix page 3) (J.2.pinned.getD 1 0) (eright ((jes P G p.ats).getD 0 pte0))
      have h2 := jlink_step hP h1.fm root (J.2.pinned.getD 1 0) (ix page 2) (J.2.pinned.getD 2 0) (eright ((jes P G p.ats).getD 1 pte0))
      obtain ⟨w3, n3⟩ := jleaf_walk hP h2.fm root (J.2.pinned.getD 2 0) page 1 p.g _ hn hno
      obtain ⟨w2, n2⟩ := jlink_walk hP h1.fm root (J.2.pinned.getD 1 0) page 2 (J.2.pinned.getD 2 0) _ hn n3
      obtain ⟨w1, _⟩ := jlink_walk hP h0.fm root (J.2.pinned.getD 0 0) page 3 (J.2.pinned.getD 1 0) _ hn n2
      exact ((w3.trans w2).trans w1).trans w0
end Go.Proofs.YtglohconhbcchaaGreatDoor

namespace Go.Proofs.YtglohconhbcchaaGreatDoor

theorem FM24 (m : List Nat) (hm : m.length = 320) : FM P24 (G24 m) :=
  ⟨⟨G24_inv m hm, fun _ _ _ hx => by simp [G24, S24, sslot, spage] at hx⟩, fun _ _ _ hx => by simp [G24, S24, sslot, spage] at hx⟩
theorem fdo_fm {P : Pm} (hP : POk P) {G : GS} (h : FM P G) (o : Opf) : FM P (fdo P G o).2 := by
  refine ⟨fdo_inv hP h.1 o, ?_⟩
  unfold fdo
  by_cases c4 : o.k = 4
  · rw [if_pos c4]
    show MOk P (gloosen G o.g).2.s
    unfold gloosen
    split <;> exact h.2
  rw [if_neg c4]
  by_cases c5 : o.k = 5
  · rw [if_pos c5]; exact h.2.wr hP h.1.1.s _ _ _
  rw [if_neg c5]
  by_cases c6 : o.k = 6
  · rw [if_pos c6]
    exact (foldl_keep (fun T : GS => MOk P T.s ∧ GInv P T) (fun G g => (glook P G g).2) (fun _ g h => ⟨glook_mok h.1 h.2 g, glook_inv h.2 g⟩) G.loose G ⟨h.2, h.1.1⟩).1
  rw [if_neg c6]
  by_cases c7 : o.k = 7
  · rw [if_pos c7]
    split
    · exact gdrop_mok h.2 h.1.1 _
    · exact h.2
  rw [if_neg c7]
  by_cases c8 : o.k = 8
  · rw [if_pos c8]
    exact (foldl_keep (fun T : GS => MOk P T.s ∧ GInv P T) (fun G p => (gzap G p o.i).2) (fun _ p h => ⟨zap_mok h.1 h.2 p o.i, gzap_inv h.2 p o.i⟩) (sof G.s.ps o.g) G ⟨h.2, h.1.1⟩).1
  rw [if_neg c8]
  by_cases c9 : o.k = 9
  · rw [if_pos c9]; exact glook_mok h.2 h.1.1 _
  rw [if_neg c9]
  unfold fwalk
  split
  · exact h.2
  · exact (jfill_step hP h _ _ _ _).fm.2
theorem frun_fm {P : Pm} (hP : POk P) {G : GS} (h : FM P G) (l : List Opf) : FM P (frun P G l) := foldl_keep (FM P) _ (fun _ o h => fdo_fm hP h o) l G h
/-- a law's run with a hit ahead of each operation changes the TLB alone -/
theorem FM.tlb {P : Pm} {G : GS} (h : FM P G) (l : List Hit) : FM P { G with l := l } := ⟨⟨tput_inv h.1.1 l, h.1.2⟩, h.2⟩
/-- the host's machine's walk, by the root's page -/
theorem rwalk_mem {P : Pm} (hP : POk P) {G : GS} (h : FM P G) {root : Int} {t : Int} (ht : sfind G.s.ps ⟨root, 3, 0⟩ = some t) (n : Int) : mwalk P.n G.s.mem n 3 t Rt.all = rwalk P G root n := by
  unfold rwalk
  rw [ht]
  exact walk_slots hP h.1.1.s h.1.1.k h.2 n 3 t Rt.all (.inr ⟨_, key_of_find h.1.1 ht, rfl⟩)
end Go.Proofs.YtglohconhbcchaaGreatDoor
