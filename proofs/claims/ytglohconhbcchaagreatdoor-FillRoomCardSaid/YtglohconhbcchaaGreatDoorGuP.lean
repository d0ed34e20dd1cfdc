/- Plain laws of GuardLoose, GuardWords, GuardDrops, GuardForbids: what the guard's functions leave. No program stands here. -/
import Derived.Test.YtglohconhbcchaaGreatDoorGo
namespace Go.Proofs.YtglohconhbcchaaGreatDoor

/-! GuardLoose -/
theorem lo_op {P : Pm} (G : GS) (o : Opg) (h8 : o.k = 8) :
    ((gdo P G o).1.2 && G.loose.contains o.g || ((gdo P G o).1.2 != ((gdo P G o).2.loose.contains o.g && !G.loose.contains o.g))) = false := by
  have e : gdo P G o = ((0, (gloosen G o.g).1), (gloosen G o.g).2) := by
    unfold gdo
    simp [h8]
  rw [e]
  unfold gloosen
  split
  · rename_i hg
    have := (loosens_forms hg).1
    simp [this]
  · cases h : G.loose.contains o.g <;> simp
theorem lo_g {P : Pm} {G : GS} (h : GInv P G) (g : Int) (hg : G.loose.contains g = true) : ∃ p k, sof G.s.ps g = [p] ∧ skey G.s.ps p = some k ∧ k.lv = 1 := by
  obtain ⟨p, e1, e2⟩ := h.lo g (by simpa using hg)
  obtain ⟨q, q1, q2, _, _⟩ := mem_sof.1 (show p ∈ sof G.s.ps g by rw [e1]; simp)
  have hk := skey_mem h.s q1
  rw [q2] at hk
  refine ⟨p, q.k, e1, hk, ?_⟩
  unfold lvOf at e2
  rw [hk] at e2
  exact e2

/-! GuardWords -/
theorem sclear_flag (S : SS) (f i : Int) : (sclear S f i).1 = ((sslot S.ps f i).any fun x => !decide (x.kind = 0)) := by
  unfold sclear
  cases sslot S.ps f i with
  | none => rfl
  | some x => by_cases h : x.kind = 0 <;> simp [h]
theorem sclear_no {S : SS} {f i : Int} (h : (sclear S f i).1 = false) : (sclear S f i).2 = S := by
  revert h
  unfold sclear
  split
  · split
    · exact fun _ => rfl
    · intro h; simp at h
  · exact fun _ => rfl
theorem gzap_s (G : GS) (p i : Int) : (gzap G p i).2.s = (sclear G.s p i).2 := by
  unfold gzap
  simp only
  cases h : (sclear G.s p i).1
  · simp [sclear_no h]
  · simp
theorem gzap_l (G : GS) (p i : Int) : (gzap G p i).2.l = if (sclear G.s p i).1 then [] else G.l := by
  unfold gzap
  simp only
  cases h : (sclear G.s p i).1 <;> simp
theorem zaps_view {P : Pm} (i : Int) : ∀ (L : List Int) {G : GS}, SInv P G.s → Zero0 G.s → L.Nodup → (L.foldl (fun G p => (gzap G p i).2) G).s = clearAll G.s (L.map fun p => (p, i)) ∧
    (L.foldl (fun G p => (gzap G p i).2) G).l = if (L.any fun p => (sclear G.s p i).1) then [] else G.l
  | [], _, _, _, _ => ⟨rfl, by simp⟩
  | p :: r, G, hS, h0, hn => by
    obtain ⟨n1, n2⟩ := List.nodup_cons.1 hn
    obtain ⟨k1, k2⟩ := zaps_view i r (G := (gzap G p i).2) (by rw [gzap_s]; exact sclear_inv hS _ _) (by rw [gzap_s]; exact sclear_zero hS h0 _ _) n2
    refine ⟨?_, ?_⟩
    · refine k1.trans ?_
      rw [gzap_s]
      rfl
    · refine k2.trans ?_
      have e : (r.any fun q => (sclear (gzap G p i).2.s q i).1) = (r.any fun q => (sclear G.s q i).1) := by
        rw [Bool.eq_iff_iff, List.any_eq_true, List.any_eq_true]
        have hq : ∀ q, q ∈ r → (sclear (gzap G p i).2.s q i).1 = (sclear G.s q i).1 := fun q hq => by
          rw [sclear_flag, sclear_flag, gzap_s, sclear_view hS h0, if_neg (show ¬ (q = p ∧ i = i) from fun h => n1 (h.1 ▸ hq))]
        exact ⟨fun ⟨q, h1, h2⟩ => ⟨q, h1, by rw [← hq q h1]; exact h2⟩, fun ⟨q, h1, h2⟩ => ⟨q, h1, by rw [hq q h1]; exact h2⟩⟩
      rw [e, gzap_l, List.any_cons]
      cases (sclear G.s p i).1 <;> cases (r.any fun q => (sclear G.s q i).1) <;> rfl
theorem sof_nodup {P : Pm} {S : SS} (hS : SInv P S) (g : Int) : (sof S.ps g).Nodup := by
  unfold sof
  exact (List.filter_sublist.map Pg.f).nodup hS.ndf
theorem sof_any_eq (ps : List Pg) (g : Int) (q : Int → Bool) : (sof ps g).any q = ps.any fun p => ofB g p.k && q p.f := by
  unfold sof
  rw [List.any_map, List.any_filter]
  rfl
/-- what a Word leaves -/
theorem gword_view {P : Pm} {G : GS} (h : GInv P G) (g i : Int) : SameK G.s (gword G g i).s ∧
    (∀ p, p ∈ G.s.ps → ∀ j : Nat, j < 8 → sslot (gword G g i).s.ps p.f (j : Int) = some (if ofB g p.k = true ∧ (j : Int) = i then slt0 else p.s.getD j slt0)) ∧
    (gword G g i).l = if (G.s.ps.any fun p => ofB g p.k && (sslot G.s.ps p.f i).any fun x => !decide (x.kind = 0)) then [] else G.l := by
  obtain ⟨h1, h2⟩ := zaps_view i (sof G.s.ps g) h.s h.k.zero (sof_nodup h.s g)
  obtain ⟨_, _, k3, k4⟩ := clearAll_view (P := P) ((sof G.s.ps g).map fun p => (p, i)) h.s h.k.zero
  have e1 : (gword G g i).s = clearAll G.s ((sof G.s.ps g).map fun p => (p, i)) := h1
  refine ⟨by rw [e1]; exact k3, fun p hp j hj => ?_, ?_⟩
  · rw [e1, k4, sslot_of h.s hp j hj]
    have : (p.f, (j : Int)) ∈ (sof G.s.ps g).map (fun p => (p, i)) ↔ ofB g p.k = true ∧ (j : Int) = i := by
      simp only [List.mem_map, Prod.mk.injEq]
      constructor
      · rintro ⟨q, hq, rfl, rfl⟩
        obtain ⟨x, x1, x2, x3, x4⟩ := mem_sof.1 hq
        have hx := find_f h.s.ndf x1
        rw [x2, find_f h.s.ndf hp] at hx
        obtain rfl : p = x := Option.some.inj hx
        exact ⟨by simp [ofB, x3, x4], rfl⟩
      · rintro ⟨hb, rfl⟩
        simp only [ofB, Bool.and_eq_true, decide_eq_true_eq] at hb
        exact ⟨p.f, mem_sof.2 ⟨p, hp, rfl, hb.1, hb.2⟩, rfl, rfl⟩
    by_cases hc : ofB g p.k = true ∧ (j : Int) = i
    · rw [if_pos (this.2 hc), if_pos hc]; rfl
    · rw [if_neg (fun e => hc (this.1 e)), if_neg hc]
  · refine h2.trans ?_
    rw [sof_any_eq]
    congr 2
    congr 1
    funext p
    rw [sclear_flag]

/-! GuardDrops -/
theorem filter_one {l : List Int} {a : Int} (hn : l.Nodup) (ha : a ∈ l) : (l.filter fun q => !decide (q = a)).length + 1 = l.length := by
  induction l with
  | nil => simp at ha
  | cons b r ih =>
    obtain ⟨n1, n2⟩ := List.nodup_cons.1 hn
    by_cases hb : b = a
    · subst hb
      have : (r.filter fun q => !decide (q = b)) = r := List.filter_eq_self.2 fun q hq => by simp; exact fun e => n1 (e ▸ hq)
      simp [this]
    · rcases List.mem_cons.1 ha with rfl | hr
      · exact (hb rfl).elim
      · have := ih n2 hr
        simp [hb, this]
/-- what a Drop of a page that there is leaves -/
theorem gdrop_view {P : Pm} {G : GS} (h : GInv P G) {p : Pg} (hp : p ∈ G.s.ps) :
    (gdrop G p.f).1 = true ∧ (gdrop G p.f).2.l = [] ∧ (gdrop (gdrop G p.f).2 p.f).1 = false ∧ (sall (gdrop G p.f).2.s.ps).length + 1 = (sall G.s.ps).length ∧
    (p.k.ro = 0 → (sof (gdrop G p.f).2.s.ps p.k.g).length + 1 = (sof G.s.ps p.k.g).length ∧ p.k.g ∉ (gdrop G p.f).2.loose) := by
  have hk := skey_mem h.s hp
  have hs := find_f h.s.ndf hp
  obtain ⟨L, e1, e2⟩ : ∃ L : List Int, gdrop G p.f = (true, ⟨(sdrop G.s p.f).2, [], L⟩) ∧ (p.k.ro = 0 → p.k.g ∉ L) := by
    unfold gdrop
    rw [hk]
    by_cases h0 : p.k.ro = 0
    · exact ⟨(gtight G p.k.g).loose, by simp [h0]; rfl, fun _ => by simp [gtight]⟩
    · exact ⟨G.loose, by simp [h0], fun e => (h0 e).elim⟩
  obtain ⟨_, v2, v3⟩ := sdrop_view h.s h.k hs
  rw [e1]
  refine ⟨rfl, rfl, ?_, ?_, fun h0 => ⟨?_, e2 h0⟩⟩
  · have hn : skey (sdrop G.s p.f).2.ps p.f = none := by rw [v2, if_pos rfl]
    unfold gdrop
    simp only [hn]
  · have := congrArg List.length v3
    simp only [List.length_map] at this
    show ((sdrop G.s p.f).2.ps.map Pg.f).length + 1 = (G.s.ps.map Pg.f).length
    rw [List.length_map, List.length_map, this]
    exact (nodup_split h.s.ndf hp rfl).1
  · show (sof (sdrop G.s p.f).2.ps p.k.g).length + 1 = _
    rw [sof_drop h.s h.k hs]
    exact filter_one (sof_nodup h.s _) (mem_sof.2 ⟨p, hp, rfl, h0, rfl⟩)

/-! GuardForbids, GuardLooks -/
/-- a leaf of g without W -/
def noW (g : Int) (x : Slt) : Slt := if x.kind = 2 ∧ x.dst = g then { x with r := ⟨false, x.r.u, x.r.x⟩ } else x
theorem noW_idem (g : Int) (x : Slt) : noW g (noW g x) = noW g x := by
  unfold noW
  by_cases h : x.kind = 2 ∧ x.dst = g <;> simp [h]
theorem ghost_lt {P : Pm} (hP : POk P) (g : Int) : 0 ≤ (((ghost P g).getD 0 : Nat) : Int) ∧ (((ghost P g).getD 0 : Nat) : Int) < P.n := by
  refine ⟨by omega, ?_⟩
  have h0 := hP.pos
  unfold ghost
  split
  · cases hh : P.hosts[g.toNat]? with
    | none => simpa using h0
    | some x =>
      have := (hP.hosts x (List.mem_of_getElem? hh)).1
      simp; omega
  · simpa using h0
theorem sleaf_of {P : Pm} {S : SS} (hk : SOk S) {f i g hst : Int} {x : Slt} {r : Rt} (hx : sslot S.ps f i = some x) (h2 : x.kind = 2) (hh : 0 ≤ hst ∧ hst < P.n) : (sleaf P.n S f i g hst r).2 = sput S f i ⟨2, g, r⟩ hst := by
  have hl : lvOf S.ps f = 1 := by
    rcases hk.sk f i x hx with e | ⟨e, _⟩ | ⟨_, e⟩
    · rw [e] at h2; cases h2
    · rw [e] at h2; cases h2
    · exact e
  unfold lvOf at hl
  unfold sleaf
  rw [hx]
  simp only
  rw [if_pos ⟨hl, hh⟩]
theorem forbid1_s {P : Pm} {G : GS} (g : Int) (a : Int × Int) (hs : SInv P G.s) (hk : SOk G.s) : SInv P (forbid1 P g G a).s ∧ SOk (forbid1 P g G a).s := by
  unfold forbid1
  simp only
  split
  · exact ⟨sleaf_inv hs _ _ _ _ _, hk.leaf hs _ _ _ _ _ _⟩
  · exact ⟨hs, hk⟩
theorem forbid1_view {P : Pm} (hP : POk P) {G : GS} (hs : SInv P G.s) (hk : SOk G.s) (g : Int) {a : Int × Int} (ha : ∃ x, sslot G.s.ps a.1 a.2 = some x ∧ x.kind = 2 ∧ x.dst = g) (f j : Int) :
    sslot (forbid1 P g G a).s.ps f j = if f = a.1 ∧ j = a.2 then (sslot G.s.ps f j).map (noW g) else sslot G.s.ps f j := by
  obtain ⟨x, hx, h2, hd⟩ := ha
  have e : noW g x = ⟨2, g, ⟨false, x.r.u, x.r.x⟩⟩ := by unfold noW; rw [if_pos ⟨h2, hd⟩]; simp [h2, hd]
  unfold forbid1
  rw [hx]
  simp only [Option.getD_some]
  split
  · show sslot (sleaf P.n G.s a.1 a.2 g _ _).2.ps f j = _
    rw [sleaf_of hk hx h2 (ghost_lt hP g), sput_view hs (sslot_some hx).1]
    split
    · rename_i hc
      obtain ⟨rfl, rfl⟩ := hc
      rw [hx, Option.map_some, Option.map_some, e]
    · rfl
  · rename_i hw
    split
    · rename_i hc
      obtain ⟨rfl, rfl⟩ := hc
      rw [hx, Option.map_some, e]
      obtain ⟨xk, xd, ⟨xw, xu, xx⟩⟩ := x
      simp only at h2 hd hw
      subst h2 hd
      cases xw
      · rfl
      · exact (hw rfl).elim
    · rfl
theorem forbid1_l {P : Pm} (g : Int) (G : GS) (a : Int × Int) : (forbid1 P g G a).l = if ((sslot G.s.ps a.1 a.2).getD slt0).r.w then [] else G.l := by
  unfold forbid1
  simp only
  split
  · rfl
  · rfl
theorem forbid1_same {P : Pm} (g : Int) (G : GS) (a : Int × Int) : SameK G.s (forbid1 P g G a).s := by
  unfold forbid1
  simp only
  split
  · exact SameK.leaf _ _ _ _ _ _ _
  · exact SameK.refl _
theorem forbids_view {P : Pm} (hP : POk P) (g : Int) : ∀ (L : List (Int × Int)) {G : GS}, SInv P G.s → SOk G.s → (∀ a, a ∈ L → ∃ x, sslot G.s.ps a.1 a.2 = some x ∧ x.kind = 2 ∧ x.dst = g) →
    (∀ f j, sslot (L.foldl (forbid1 P g) G).s.ps f j = if (f, j) ∈ L then (sslot G.s.ps f j).map (noW g) else sslot G.s.ps f j) ∧
    ((∃ a, a ∈ L ∧ ((sslot G.s.ps a.1 a.2).getD slt0).r.w = true) → (L.foldl (forbid1 P g) G).l = []) ∧ (G.l = [] → (L.foldl (forbid1 P g) G).l = []) ∧ SameK G.s (L.foldl (forbid1 P g) G).s
  | [], G, _, _, _ => ⟨fun _ _ => by simp, fun ⟨_, h, _⟩ => by simp at h, fun h => h, SameK.refl _⟩
  | a :: r, G, hs, hk, ha => by
    have ha0 := ha a (List.mem_cons_self ..)
    have v := forbid1_view hP hs hk g ha0
    have hf := forbid1_s (P := P) g a hs hk
    obtain ⟨k1, k2, k3, k4⟩ := forbids_view hP g r hf.1 hf.2 (fun b hb => by
      obtain ⟨x, hx, h2, hd⟩ := ha b (List.mem_cons_of_mem _ hb)
      rw [v]
      split
      · refine ⟨noW g x, by rw [hx]; rfl, ?_, ?_⟩ <;> unfold noW <;> simp [h2, hd]
      · exact ⟨x, hx, h2, hd⟩)
    have hl := forbid1_l (P := P) g G a
    refine ⟨fun f j => ?_, fun ⟨b, hb, hw⟩ => ?_, fun e => k3 (by rw [hl, e]; split <;> rfl), (forbid1_same g G a).trans k4⟩
    · refine (k1 f j).trans ?_
      rw [v]
      obtain ⟨a1, a2⟩ := a
      by_cases hq : f = a1 ∧ j = a2
      · rw [if_pos hq, if_pos (show (f, j) ∈ (a1, a2) :: r by obtain ⟨rfl, rfl⟩ := hq; exact List.mem_cons_self ..)]
        split
        · cases sslot G.s.ps f j with
          | none => rfl
          | some x => simp [noW_idem]
        · rfl
      · rw [if_neg hq]
        have : (f, j) ∈ (a1, a2) :: r ↔ (f, j) ∈ r := by
          constructor
          · intro h
            rcases List.mem_cons.1 h with h | h
            · simp only [Prod.mk.injEq] at h; exact (hq h).elim
            · exact h
          · exact List.mem_cons_of_mem _
        by_cases hr : (f, j) ∈ r
        · rw [if_pos hr, if_pos (this.2 hr)]
        · rw [if_neg hr, if_neg (fun e => hr (this.1 e))]
    · show (r.foldl (forbid1 P g) (forbid1 P g G a)).l = []
      cases hwa : ((sslot G.s.ps a.1 a.2).getD slt0).r.w with
      | true => exact k3 (by rw [hl, hwa]; rfl)
      | false =>
        rcases List.mem_cons.1 hb with rfl | hb
        · rw [hwa] at hw; cases hw
        · refine k2 ⟨b, hb, ?_⟩
          rw [v]
          split
          · rename_i e
            obtain ⟨b1, b2⟩ := b
            obtain ⟨rfl, rfl⟩ := e
            rw [hwa] at hw; cases hw
          · exact hw
/-- what a Forbid leaves -/
theorem gforbid_view {P : Pm} (hP : POk P) {G : GS} (hs : SInv P G.s) (hk : SOk G.s) (g : Int) : (∀ f j, sslot (gforbid P G g).s.ps f j = (sslot G.s.ps f j).map (noW g)) ∧
    (gwrit G g = true → (gforbid P G g).l = []) ∧ (G.l = [] → (gforbid P G g).l = []) ∧ SameK G.s (gforbid P G g).s := by
  obtain ⟨k1, k2, k3, k4⟩ := forbids_view hP g (stold G.s.ps 2 g) hs hk (fun a ha => (mem_stold hs 2 g a.1 a.2).1 ha)
  refine ⟨fun f j => ?_, fun hw => k2 ?_, k3, k4⟩
  · refine (k1 f j).trans ?_
    split
    · rfl
    · rename_i hn
      cases hx : sslot G.s.ps f j with
      | none => rfl
      | some x =>
        have : ¬ (x.kind = 2 ∧ x.dst = g) := fun e => hn ((mem_stold hs 2 g f j).2 ⟨x, hx, e⟩)
        simp [noW, this]
  · unfold gwrit at hw
    obtain ⟨a, h1, h2⟩ := List.any_eq_true.1 hw
    exact ⟨a, h1, h2⟩
theorem gwrit_of {P : Pm} {G : GS} (h : SInv P G.s) (g : Int) (hv : ∀ f j x, sslot G.s.ps f j = some x → x.kind = 2 → x.dst = g → x.r.w = false) : gwrit G g = false := by
  unfold gwrit
  refine List.any_eq_false.2 fun a ha => ?_
  obtain ⟨x, hx, h2, hd⟩ := (mem_stold h 2 g a.1 a.2).1 ha
  rw [hx]
  simp [hv _ _ x hx h2 hd]
theorem gforbid_s {P : Pm} {G : GS} (hs : SInv P G.s) (hk : SOk G.s) (g : Int) : SInv P (gforbid P G g).s ∧ SOk (gforbid P G g).s :=
  foldl_keep (fun T : GS => SInv P T.s ∧ SOk T.s) (forbid1 P g) (fun _ a h => forbid1_s g a h.1 h.2) _ _ ⟨hs, hk⟩
theorem gforbid_writ {P : Pm} (hP : POk P) {G : GS} (hs : SInv P G.s) (hk : SOk G.s) (g : Int) : gwrit (gforbid P G g) g = false := by
  refine gwrit_of (P := P) (gforbid_s hs hk g).1 g fun f j x hx h2 hd => ?_
  rw [(gforbid_view hP hs hk g).1] at hx
  cases hy : sslot G.s.ps f j with
  | none => rw [hy] at hx; simp at hx
  | some y =>
    rw [hy] at hx
    simp only [Option.map_some, Option.some.injEq] at hx
    subst hx
    unfold noW at h2 hd ⊢
    by_cases hc : y.kind = 2 ∧ y.dst = g
    · rw [if_pos hc]
    · rw [if_neg hc] at h2 hd; exact (hc ⟨h2, hd⟩).elim
theorem Far_gforbid {P : Pm} {G : GS} (hs : SInv P G.s) (hk : SOk G.s) (g : Int) : Far P G.s (gforbid P G g).s := by
  have key : ∀ (L : List (Int × Int)) (T : GS), SInv P T.s → SOk T.s → Far P T.s (L.foldl (forbid1 P g) T).s := by
    intro L
    induction L with
    | nil => exact fun T _ _ => Far.refl _ _
    | cons a r ih =>
      intro T hs hk
      have hf := forbid1_s (P := P) g a hs hk
      refine Far.trans ?_ (ih _ hf.1 hf.2)
      unfold forbid1
      simp only
      split
      · exact Far.leaf hs _ _ _ _ _ _
      · exact Far.refl _ _
  exact key _ _ hs hk

/-! a Look -/
theorem rd_far {P : Pm} (hP : POk P) {S S' : SS} (h : Far P S S') (g i : Int) : rd P.hosts S'.mem g i = rd P.hosts S.mem g i := by
  unfold rd place
  split
  · rename_i hc
    cases hh : P.hosts[g.toNat]? with
    | none => rfl
    | some x =>
      have := (hP.hosts x (List.mem_of_getElem? hh)).2
      exact h (8 * x + i.toNat) (by omega)
  · rfl
/-- what a Look leaves of a leaf of the table's page -/
def keepE (P : Pm) (mem : List Nat) (g j : Int) (x : Slt) : Slt := if x.kind = 2 ∧ agrees x (pte ((rd P.hosts mem g j).getD 0)) = false then slt0 else x
theorem look1_view {P : Pm} {G : GS} (hs : SInv P G.s) (hk : SOk G.s) (g p : Int) (i : Nat) (f j : Int) :
    sslot (look1 P g p G i).s.ps f j = if f = p ∧ j = (i : Int) then (sslot G.s.ps f j).map (keepE P G.s.mem g j) else sslot G.s.ps f j := by
  unfold look1
  simp only
  split
  · rename_i hc
    rw [sclear_view hs hk.zero]
    split
    · rename_i e
      obtain ⟨rfl, rfl⟩ := e
      cases hx : sslot G.s.ps f (i : Int) with
      | none => rfl
      | some x =>
        rw [hx] at hc
        simp only [Option.getD_some] at hc
        simp only [Option.map_some, keepE]
        rw [if_pos hc]
    · rfl
  · rename_i hc
    split
    · rename_i e
      obtain ⟨rfl, rfl⟩ := e
      cases hx : sslot G.s.ps f (i : Int) with
      | none => rfl
      | some x =>
        rw [hx] at hc
        simp only [Option.getD_some] at hc
        simp only [Option.map_some, keepE]
        rw [if_neg hc]
    · rfl
theorem look1_s {P : Pm} {G : GS} (g p : Int) (i : Nat) (hs : SInv P G.s) (hk : SOk G.s) : SInv P (look1 P g p G i).s ∧ SOk (look1 P g p G i).s ∧ Far P G.s (look1 P g p G i).s ∧ SameK G.s (look1 P g p G i).s := by
  unfold look1
  simp only
  split
  · exact ⟨sclear_inv hs _ _, hk.clear hs _ _, Far.clear hs _ _, SameK.clear _ _ _⟩
  · exact ⟨hs, hk, Far.refl _ _, SameK.refl _⟩
theorem looks_view {P : Pm} (hP : POk P) (g p : Int) : ∀ (L : List Nat) {G : GS}, SInv P G.s → SOk G.s →
    (SInv P (L.foldl (look1 P g p) G).s ∧ SOk (L.foldl (look1 P g p) G).s ∧ Far P G.s (L.foldl (look1 P g p) G).s ∧ SameK G.s (L.foldl (look1 P g p) G).s) ∧
    ∀ f j, sslot (L.foldl (look1 P g p) G).s.ps f j = if f = p ∧ ∃ i, i ∈ L ∧ j = (i : Int) then (sslot G.s.ps f j).map (keepE P G.s.mem g j) else sslot G.s.ps f j
  | [], G, hs, hk => ⟨⟨hs, hk, Far.refl _ _, SameK.refl _⟩, fun f j => by simp⟩
  | a :: r, G, hs, hk => by
    obtain ⟨a1, a2, a3, a4⟩ := look1_s (P := P) g p a hs hk
    obtain ⟨⟨b1, b2, b3, b4⟩, b5⟩ := looks_view hP g p r a1 a2
    refine ⟨⟨b1, b2, a3.trans b3, a4.trans b4⟩, fun f j => ?_⟩
    refine (b5 f j).trans ?_
    have hke : ∀ x, keepE P (look1 P g p G a).s.mem g j x = keepE P G.s.mem g j x := fun x => by unfold keepE; rw [rd_far hP a3]
    have hid : ∀ x, keepE P G.s.mem g j (keepE P G.s.mem g j x) = keepE P G.s.mem g j x := fun x => by
      unfold keepE
      by_cases hc : x.kind = 2 ∧ agrees x (pte ((rd P.hosts G.s.mem g j).getD 0)) = false
      · rw [if_pos hc]; rfl
      · rw [if_neg hc, if_neg hc]
    rw [funext hke, look1_view hs hk]
    by_cases h1 : f = p ∧ j = (a : Int)
    · rw [if_pos h1, if_pos (show f = p ∧ ∃ i, i ∈ a :: r ∧ j = (i : Int) from ⟨h1.1, a, List.mem_cons_self .., h1.2⟩)]
      split
      · cases sslot G.s.ps f j with
        | none => rfl
        | some x => simp [hid]
      · rfl
    · rw [if_neg h1]
      by_cases h2 : f = p ∧ ∃ i, i ∈ r ∧ j = (i : Int)
      · obtain ⟨e, i, hi, ej⟩ := h2
        rw [if_pos ⟨e, i, hi, ej⟩, if_pos ⟨e, i, List.mem_cons_of_mem _ hi, ej⟩]
      · rw [if_neg h2, if_neg (fun ⟨e, i, hi, ej⟩ => by
          rcases List.mem_cons.1 hi with rfl | hi
          · exact h1 ⟨e, ej⟩
          · exact h2 ⟨e, i, hi, ej⟩)]
theorem lookP_view {P : Pm} (hP : POk P) {G : GS} (g p : Int) (hs : SInv P G.s) (hk : SOk G.s) : (SInv P (lookP P g G p).s ∧ SOk (lookP P g G p).s ∧ Far P G.s (lookP P g G p).s ∧ SameK G.s (lookP P g G p).s) ∧
    ∀ f j, sslot (lookP P g G p).s.ps f j = if f = p ∧ ∃ i, i ∈ List.range 8 ∧ j = (i : Int) then (sslot G.s.ps f j).map (keepE P G.s.mem g j) else sslot G.s.ps f j := by
  unfold lookP
  exact looks_view hP g p (List.range 8) hs hk
/-- what a Look of a loose frame leaves -/
theorem glook_view {P : Pm} (hP : POk P) {G : GS} (h : GInv P G) (g : Int) (hg : G.loose.contains g = true) (q : Int) (hq : sof G.s.ps g = [q]) :
    (glook P G g).1 = true ∧ (glook P G g).2.l = [] ∧ Far P G.s (glook P G g).2.s ∧ SameK G.s (glook P G g).2.s ∧ SInv P (glook P G g).2.s ∧ SOk (glook P G g).2.s ∧
    ∀ f j, sslot (glook P G g).2.s.ps f j = (sslot G.s.ps f j).map fun x => if f = q then keepE P G.s.mem g j (noW g x) else noW g x := by
  obtain ⟨v1, _, _, v4⟩ := gforbid_view hP (G := gtight G g) h.s h.k g
  obtain ⟨s1, s2⟩ := gforbid_s (P := P) (G := gtight G g) h.s h.k g
  have ff := Far_gforbid (P := P) (G := gtight G g) h.s h.k g
  obtain ⟨G1, hG1⟩ : ∃ G1, gforbid P (gtight G g) g = G1 := ⟨_, rfl⟩
  rw [hG1] at v1 v4 s1 s2 ff
  have e : glook P G g = (true, { (lookP P g G1 q) with l := [] }) := by
    unfold glook
    rw [if_pos hg]
    simp only [hG1]
    rw [v4.of g, show sof (gtight G g).s.ps g = [q] from hq]
    rw [List.foldl_cons, List.foldl_nil]
  obtain ⟨⟨b1, b2, b3, b4⟩, b5⟩ : (SInv P (lookP P g G1 q).s ∧ SOk (lookP P g G1 q).s ∧ Far P G1.s (lookP P g G1 q).s ∧ SameK G1.s (lookP P g G1 q).s) ∧
    ∀ f j, sslot (lookP P g G1 q).s.ps f j = if f = q ∧ ∃ i, i ∈ List.range 8 ∧ j = (i : Int) then (sslot G1.s.ps f j).map (keepE P G1.s.mem g j) else sslot G1.s.ps f j := lookP_view hP g q s1 s2
  obtain ⟨T, hT⟩ : ∃ T, lookP P g G1 q = T := ⟨_, rfl⟩
  rw [hT] at e b1 b2 b3 b4 b5
  rw [e]
  refine ⟨rfl, rfl, ff.trans b3, v4.trans b4, b1, b2, fun f j => ?_⟩
  show sslot T.s.ps f j = _
  rw [b5]
  rw [v1]
  have hmm : ∀ x, keepE P G1.s.mem g j x = keepE P G.s.mem g j x := fun x => by unfold keepE; rw [rd_far hP ff]; rfl
  rw [funext hmm]
  show _ = (sslot G.s.ps f j).map _
  cases hx : sslot G.s.ps f j with
  | none =>
    have : sslot (gtight G g).s.ps f j = none := hx
    rw [this]; split <;> rfl
  | some x =>
    have h1 : sslot (gtight G g).s.ps f j = some x := hx
    have hj := (sslot_some hx).1
    rw [h1]
    by_cases hf : f = q
    · rw [if_pos ⟨hf, j.toNat, by rw [List.mem_range]; omega, by omega⟩]
      simp [hf]
    · rw [if_neg (fun e => hf e.1)]
      simp [hf]
theorem glook_writ {P : Pm} (hP : POk P) {G : GS} (h : GInv P G) (g : Int) (hg : G.loose.contains g = true) : gwrit (glook P G g).2 g = false := by
  obtain ⟨q, _, hq, _, _⟩ := lo_g h g hg
  obtain ⟨_, _, _, _, s1, _, v⟩ := glook_view hP h g hg q hq
  refine gwrit_of s1 g fun f j x hx h2 hd => ?_
  rw [v] at hx
  cases hy : sslot G.s.ps f j with
  | none => rw [hy] at hx; simp at hx
  | some y =>
    rw [hy] at hx
    simp only [Option.map_some, Option.some.injEq] at hx
    have hn : ∀ z : Slt, z.kind = 2 → z.dst = g → z = noW g y → z.r.w = false := fun z z2 zd ez => by
      subst ez
      unfold noW at z2 zd ⊢
      by_cases hc : y.kind = 2 ∧ y.dst = g
      · rw [if_pos hc]
      · rw [if_neg hc] at z2 zd; exact (hc ⟨z2, zd⟩).elim
    split at hx
    · unfold keepE at hx
      split at hx
      · subst hx; cases h2
      · exact hn x h2 hd hx.symm
    · exact hn x h2 hd hx.symm
/-- GuardForbids, the Make -/
theorem gmake_forbids {P : Pm} (hP : POk P) {G : GS} (h : GInv P G) (k : Key) (hno : sfind G.s.ps k = none) (his : (gmake P G k).1.isSome = true) (h0 : k.ro = 0) :
    gwrit (gmake P G k).2 k.g = false ∧ (gwrit G k.g = true ∨ G.loose.contains k.g = true → (gmake P G k).2.l = []) := by
  have h1 := gmake1_inv h k
  have e1 : gmake1 P G k = (glook P G k.g).2 := by unfold gmake1; rw [if_pos h0]
  unfold gmake at his ⊢
  rw [hno] at his ⊢
  simp only at his ⊢
  cases hm : smake P (gmake1 P G k).s k with
  | none => rw [hm] at his; simp at his
  | some t =>
    obtain ⟨f, S⟩ := t
    simp only [if_pos h0]
    obtain ⟨m1, m2, m3, ⟨n, b, rfl⟩, m4, m5⟩ := smake_forms h1.s hm
    have i1 : SInv P ({ gmake1 P G k with s := smade (gmake1 P G k).s k f n b } : GS).s := smake_inv h1.s hm
    have i2 : SOk ({ gmake1 P G k with s := smade (gmake1 P G k).s k f n b } : GS).s := h1.k.made m3 m1 m2
    obtain ⟨v1, v2, v3, _⟩ := gforbid_view hP i1 i2 k.g
    refine ⟨gforbid_writ hP i1 i2 k.g, fun hor => ?_⟩
    by_cases hl : G.loose.contains k.g = true
    · refine v3 ?_
      show (gmake1 P G k).l = []
      obtain ⟨q, _, hq, _, _⟩ := lo_g h k.g hl
      rw [e1]
      exact (glook_view hP h k.g hl q hq).2.1
    · have hw : gwrit G k.g = true := hor.resolve_right hl
      have e2 : gmake1 P G k = G := by rw [e1]; unfold glook; rw [if_neg hl]
      refine v2 ?_
      rw [e2] at m3 i1 ⊢
      unfold gwrit at hw ⊢
      obtain ⟨a, a1, a2⟩ := List.any_eq_true.1 hw
      obtain ⟨x, hx, x2, xd⟩ := (mem_stold h.s 2 k.g a.1 a.2).1 a1
      have hx' : sslot (smade G.s k f n b).ps a.1 a.2 = some x := by
        rw [sslot_made m3]
        rw [if_neg (fun e => by
          obtain ⟨_, p, hp, hpf, _⟩ := sslot_some hx
          exact m3 p hp (hpf.trans e))]
        exact hx
      refine List.any_eq_true.2 ⟨a, (mem_stold i1 2 k.g a.1 a.2).2 ⟨x, hx', x2, xd⟩, ?_⟩
      rw [hx] at a2
      show (((sslot (smade G.s k f n b).ps a.1 a.2).getD slt0).r.w) = true
      rw [hx']
      exact a2
/-- GuardForbids, the Looks -/
def fbl (P : Pm) (G : GS) (L : List Int) : GS := L.foldl (fun G g => (glook P { G with l := tput P.most G.l ⟨0, 5, 0, ⟨false, false, false⟩, false⟩ } g).2) G
theorem tput_inv {P : Pm} {G : GS} (h : GInv P G) (l : List Hit) : GInv P { G with l := l } := ⟨h.s, h.k, h.lnd, h.lo⟩
theorem fbl_inv {P : Pm} {G : GS} (h : GInv P G) (L : List Int) : GInv P (fbl P G L) := foldl_keep (GInv P) _ (fun _ g h => glook_inv (tput_inv h _) g) _ _ h
theorem fbl_loose {P : Pm} : ∀ (L : List Int) (G : GS), G.loose.Nodup → ∀ k, L = G.loose → (fbl P G (L.take k)).loose = G.loose.drop k := by
  intro L G hn k hL
  subst hL
  induction k with
  | zero => simp [fbl]
  | succ k ih =>
    by_cases hk : k < G.loose.length
    · have e : fbl P G (G.loose.take (k + 1)) = (glook P { (fbl P G (G.loose.take k)) with l := tput P.most (fbl P G (G.loose.take k)).l ⟨0, 5, 0, ⟨false, false, false⟩, false⟩ } (G.loose.getD k 0)).2 := foldl_take _ 0 G G.loose k hk
      rw [e, glook_loose]
      show (fbl P G (G.loose.take k)).loose.filter _ = _
      rw [ih]
      have hd : G.loose.drop k = G.loose.getD k 0 :: G.loose.drop (k + 1) := by
        rw [List.drop_eq_getElem_cons hk, List.getD, List.getElem?_eq_getElem hk]; rfl
      rw [hd] at ih ⊢
      have hn' : (G.loose.getD k 0 :: G.loose.drop (k + 1)).Nodup := hd ▸ (List.drop_sublist k _).nodup hn
      have n1 := (List.nodup_cons.1 hn').1
      rw [List.filter_cons]
      simp only [decide_true, Bool.not_true, Bool.false_eq_true, if_false]
      exact List.filter_eq_self.2 fun a ha => by simp only [Bool.not_eq_true', decide_eq_false_iff_not]; exact fun e => n1 (e ▸ ha)
    · rw [List.take_of_length_le (by omega)] at ih
      rw [List.take_of_length_le (by omega), ih, List.drop_of_length_le (by omega), List.drop_of_length_le (by omega)]
theorem POk24 : POk P24 := ⟨by decide, by decide⟩
end Go.Proofs.YtglohconhbcchaaGreatDoor
