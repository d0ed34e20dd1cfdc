/- Laws of choices at a model, in plain Lean. -/
import Derived.Test.YtgaififhhffpfaaGreatDoorChGet
import Derived.Test.YtgaififhhffpfaaGreatDoorGood
namespace Go.Proofs.YtgaififhhffpfaaGreatDoor
open Go.RowKit Go.Shelf

/-- choices in a slice that is one's own, as a thing -/
theorem crow_view {w : World} {a : Option Addr} {n c : Nat} {cs : List (Bool × Int)} (h : CRow w 0 (.slice a n c) cs) : n = cs.length ∧ Chs w a cs := by
  obtain ⟨a', c', e, hc, _, _⟩ := h.view
  injection e with e1 e2 e3
  subst e1 e2
  exact ⟨rfl, hc⟩
def crow (v : Value) (cs : List (Bool × Int)) : Thing where
  own k := v.ownBlock = some k
  so w := CRow w 0 v cs
  lt w h k hk := (World.ownsRow.lt h k hk).2
  keep w w' h hs hk := by
    rcases h.2 with ⟨e1, e2⟩ | ⟨g, cap, cur, rfl, hB, h3, h4, h5, h6, h7⟩
    · exact ⟨h.1, .inl ⟨e1, e2⟩⟩
    · exact ⟨h.1, .inr ⟨g, cap, cur, rfl, hB, (hk g rfl).trans h3, h4, h5, h6, h7⟩⟩
theorem Hold.crow {w0 w w' : World} {ts : List Thing} (H : Hold w0 w ts) (hb : Below w.heap.size w w') {v : Value} {cs : List (Bool × Int)} (h : w'.ownsRow w.heap.size 79 2 v cs.length (cs.flatMap cC)) : Hold w0 w' (Go.Proofs.YtgaififhhffpfaaGreatDoor.crow v cs :: ts) :=
  H.add hb _ (ownsRow_base h (Nat.zero_le _)) (fun k hk => (World.ownsRow.lt h k hk).1)
theorem Hold.chs {w0 w : World} {ts : List Thing} (H : Hold w0 w ts) (i : Nat) {a : Option Addr} {n c : Nat} {cs : List (Bool × Int)} (hi : ts[i]? = some (Go.Proofs.YtgaififhhffpfaaGreatDoor.crow (.slice a n c) cs)) : Chs w a cs := (crow_view (H.at i hi)).2

/-- what is known, as it may be: of pages that there are -/
structure Snug (S : S10) : Prop where
  good : Good S
  pg : ∀ h, h ∈ S.l → 0 ≤ h.page ∧ h.page < 512
theorem nodup_len : ∀ (n : Nat) (l : List Nat), l.Nodup → (∀ x, x ∈ l → x < n) → l.length ≤ n
  | 0, l, _, h => by
    cases l with
    | nil => exact Nat.le_refl _
    | cons x l => exact absurd (h x List.mem_cons_self) (by omega)
  | n + 1, l, hn, h => by
    have h1 := nodup_len n (l.erase n) (hn.erase n) (fun x hx => by
      have := (List.Nodup.mem_erase_iff hn).1 hx
      have := h x this.2
      omega)
    have := List.length_erase (a := n) (l := l)
    split at this <;> omega
theorem pages_nodup : ∀ {l : List Hit}, l.Pairwise unlike → (∀ h, h ∈ l → h.asid = 0) → (∀ h, h ∈ l → 0 ≤ h.page ∧ h.page < 512) → (l.map fun h => h.page.toNat).Nodup
  | [], _, _, _ => List.nodup_nil
  | x :: l, hp, ha, hg => by
    rw [List.pairwise_cons] at hp
    rw [List.map_cons, List.nodup_cons]
    refine ⟨fun hm => ?_, pages_nodup hp.2 (fun h hm => ha h (List.mem_cons_of_mem _ hm)) (fun h hm => hg h (List.mem_cons_of_mem _ hm))⟩
    obtain ⟨y, hy, e⟩ := List.mem_map.1 hm
    have hx := hg x List.mem_cons_self
    have hy' := hg y (List.mem_cons_of_mem _ hy)
    exact hp.1 y hy ⟨(ha x List.mem_cons_self).trans (ha y (List.mem_cons_of_mem _ hy)).symm, by omega⟩
theorem short {l : List Hit} (hp : l.Pairwise unlike) (ha : ∀ h, h ∈ l → h.asid = 0) (hg : ∀ h, h ∈ l → 0 ≤ h.page ∧ h.page < 512) {q : Int} (hq : 0 ≤ q ∧ q < 512) (hno : ∀ h, h ∈ l → h.page ≠ q) : l.length < 512 := by
  have hn := pages_nodup hp ha hg
  have h2 := nodup_len 512 (q.toNat :: l.map fun h => h.page.toNat) (by
    rw [List.nodup_cons]
    refine ⟨fun hm => ?_, hn⟩
    obtain ⟨y, hy, e⟩ := List.mem_map.1 hm
    have := hg y hy
    exact hno y hy (by omega)) (fun x hx => by
      rcases List.mem_cons.1 hx with e | e
      · omega
      · obtain ⟨y, hy, e⟩ := List.mem_map.1 e
        have := hg y hy
        omega)
  simp only [List.length_cons, List.length_map] at h2
  omega
section
variable {S : S10} (h : Snug S)
include h
theorem Snug.asid (x : Hit) (hx : x ∈ S.l) : x.asid = 0 := (h.good.fr x hx).1
theorem Snug.room {q : Int} (hq : 0 ≤ q ∧ q < 512) : (tdrop S.l 0 q).length < 512 :=
  short (tdrop_pw h.good.one _ _) (fun x hx => h.asid x (eraseP_sub hx)) (fun x hx => h.pg x (eraseP_sub hx)) hq
    (fun x hx e => tdrop_gone h.good.one 0 q x hx ⟨h.asid x (eraseP_sub hx), e⟩)
theorem Snug.put_ne {x : Hit} (ha : x.asid = 0) (hx : 0 ≤ x.page ∧ x.page < 512) {q : Int} (hne : x.page ≠ q) : tget (tput 512 S.l x) 0 q = tget S.l 0 q := by
  have hr := h.room hx
  unfold tput tget
  rw [ha, if_neg (by omega), List.find?_append, List.find?_cons_of_neg (by intro hk; exact hne (ofKey_iff.1 hk).2), List.find?_nil, Option.or_none]
  exact find_erase fun e => hne e.2
theorem Snug.drop (page : Int) : Snug (dropS S page) := ⟨h.good.drop page, fun x hx => h.pg x (eraseP_sub hx)⟩
theorem Snug.turn (mem : List Nat) (root : Int) : Snug ⟨mem, root, S.l⟩ := ⟨h.good.mem mem root, h.pg⟩
theorem Snug.put (mem : List Nat) (root : Int) (x : Hit) (hx : x.asid = 0 ∧ 0 ≤ x.frame ∧ x.frame < 16) (hp : 0 ≤ x.page ∧ x.page < 512) : Snug ⟨mem, root, tput 512 S.l x⟩ :=
  ⟨good_put h.good mem root x hx, fun y hy => by
    rcases tput_mem hy with e | e
    · subst e; exact hp
    · exact h.pg y (eraseP_sub e)⟩
theorem Snug.find {page : Int} (hp : 0 ≤ page ∧ page < 512) : Snug (findS S page) := by
  unfold findS findR
  split
  · exact h
  · split
    · rename_i h0
      split
      · exact h
      · obtain ⟨⟨P, hw, k⟩, ho⟩ : ∃ o, out (wk (rd h16 S.mem) h16.length S.root page 0 false) = o := ⟨_, rfl⟩
        rw [ho] at h0 ⊢
        dsimp only at h0
        subst h0
        obtain ⟨f0, f1, _⟩ := wk_frame ho
        exact h.put S.mem S.root _ ⟨rfl, f0, f1⟩ hp
    · exact h
theorem Snug.trans (kind : Int) (user : Bool) {page : Int} (hp : 0 ≤ page ∧ page < 512) (mem : List Nat) : Snug ⟨mem, S.root, (transR S.mem S.root S.l kind user page).l⟩ := by
  have hm : Snug ⟨mem, S.root, (missR S.mem S.root S.l kind user page (out (wk (rd h16 S.mem) h16.length S.root page kind user))).l⟩ := by
    obtain ⟨⟨P, hw, k⟩, ho⟩ : ∃ o, out (wk (rd h16 S.mem) h16.length S.root page kind user) = o := ⟨_, rfl⟩
    rw [ho]
    unfold missR
    dsimp only
    by_cases h0 : hw = 0
    · subst h0
      rw [if_pos rfl]
      obtain ⟨f0, f1, _⟩ := wk_frame ho
      exact (h.drop page).put mem S.root _ ⟨rfl, f0, f1⟩ hp
    · rw [if_neg h0]
      exact (h.drop page).turn mem S.root
  unfold transR
  split
  · split
    · exact h.turn _ _
    · exact hm
  · exact hm
theorem Snug.acc (kind : Int) (user : Bool) (a x : Nat) : Snug (accS S kind user a x).2 := by
  have ht := fun mem => h.trans kind user (page := (pageOf a : Int)) (by unfold pageOf; omega) mem
  unfold accS accR
  dsimp only
  split
  · split
    · split
      · split
        · exact ht _
        · exact ht _
      · exact ht _
    · exact h
  · exact h
omit h in
theorem okC_bd {c : Bool × Int} (hc : okC c = true) : 0 ≤ c.2 ∧ c.2 < 512 := by
  unfold okC at hc; simpa using hc
omit h in
theorem apply1_bad {c : Bool × Int} (hc : okC c = false) : apply1 S c = (false, S) := by unfold apply1; rw [hc]; rfl
omit h in
theorem apply1_fill {p : Int} (hc : okC (true, p) = true) : apply1 S (true, p) = ((findR S.mem S.root S.l p).1, findS S p) := by unfold apply1; rw [hc]; rfl
omit h in
theorem apply1_drop {p : Int} (hc : okC (false, p) = true) : apply1 S (false, p) = ((tget S.l 0 p).isSome, dropS S p) := by unfold apply1; rw [hc]; rfl
theorem Snug.apply (c : Bool × Int) : Snug (apply1 S c).2 := by
  obtain ⟨f, p⟩ := c
  cases hc : okC (f, p) with
  | false => rw [apply1_bad hc]; exact h
  | true =>
    cases f with
    | true => rw [apply1_fill hc]; exact h.find (by unfold okC at hc; simpa using hc)
    | false => rw [apply1_drop hc]; exact h.drop p
omit h in
theorem apply1_mem (c : Bool × Int) : (apply1 S c).2.mem = S.mem ∧ (apply1 S c).2.root = S.root := by
  unfold apply1
  split
  · split <;> exact ⟨rfl, rfl⟩
  · exact ⟨rfl, rfl⟩
omit h in
theorem apply1_len (c : Bool × Int) : (apply1 S c).2.l.length ≤ S.l.length + (if c.1 then 1 else 0) := by
  unfold apply1
  split
  · split
    · exact findS_len1 _ _
    · exact tdrop_len _ _ _
  · exact Nat.le_add_right _ _
theorem apply1_other (c : Bool × Int) {n : Int} (hc : c.2 ≠ n) : tget (apply1 S c).2.l 0 n = tget S.l 0 n := by
  obtain ⟨f, p⟩ := c
  cases hk : okC (f, p) with
  | false => rw [apply1_bad hk]
  | true =>
    cases f with
    | false => rw [apply1_drop hk]; exact tget_drop_ne hc
    | true =>
      rw [apply1_fill hk]
      show tget (findR S.mem S.root S.l p).2 0 n = _
      unfold findR
      split
      · rfl
      · split
        · split
          · rfl
          · exact h.put_ne (x := foundH p _ false) rfl (show 0 ≤ p ∧ p < 512 from okC_bd hk) hc
        · rfl
/-- a choice that is told twice in a row does nothing the second time -/
theorem apply1_again (c : Bool × Int) : (apply1 (apply1 S c).2 c).1 = false ∧ (apply1 (apply1 S c).2 c).2.mem = S.mem := by
  refine ⟨?_, by rw [(apply1_mem _).1, (apply1_mem _).1]⟩
  obtain ⟨f, p⟩ := c
  cases hk : okC (f, p) with
  | false => rw [apply1_bad hk, apply1_bad hk]
  | true =>
    cases f with
    | false =>
      rw [apply1_drop hk, apply1_drop hk]
      show (tget (tdrop S.l 0 p) 0 p).isSome = false
      rw [tget_drop h.good.one]; rfl
    | true =>
      rw [apply1_fill hk, apply1_fill hk]
      dsimp only
      cases hg : tget S.l 0 p with
      | some x =>
        have e := find_known (S := S) hg
        have e2 : findS S p = S := by unfold findS; rw [e]
        rw [e2, e]
      | none =>
        obtain ⟨⟨P, hw, k⟩, ho⟩ : ∃ o, out (wk (rd h16 S.mem) h16.length S.root p 0 false) = o := ⟨_, rfl⟩
        by_cases h0 : hw = 0
        · subst h0
          cases hu : P.ats.any (unused h16 S.mem) with
          | true =>
            have e := find_unm hg ho hu
            have e2 : findS S p = S := by unfold findS; rw [e]
            rw [e2, e]
          | false =>
            have e := find_yes hg ho hu
            have e2 : findS S p = ⟨S.mem, S.root, tput 512 S.l (foundH p P false)⟩ := by unfold findS; rw [e]
            rw [e2]
            rw [find_known (S := ⟨S.mem, S.root, tput 512 S.l (foundH p P false)⟩) (n := p) (tget_put h.good.one (foundH p P false))]
        · have e := find_bad hg ho h0
          have e2 : findS S p = S := by unfold findS; rw [e]
          rw [e2, e]
end
theorem snug_nil (mem : List Nat) (root : Int) : Snug ⟨mem, root, []⟩ := ⟨good_nil _ _, fun x hx => by cases hx⟩

/-! many choices -/
theorem fold_count (l : List (Bool × Int)) : ∀ (k : Nat) (S : S10), l.foldl applyStep (k, S) = (k + (applyN S l).1, (applyN S l).2) := by
  unfold applyN
  induction l with
  | nil => intro k S; rfl
  | cons c l ih =>
    intro k S
    have step : ∀ k, applyStep (k, S) c = (if (apply1 S c).1 = true then k + 1 else k, (apply1 S c).2) := fun _ => rfl
    rw [List.foldl_cons, List.foldl_cons, step, step]
    rw [ih, ih (if (apply1 S c).1 = true then 0 + 1 else 0)]
    split
    · simp [Nat.add_assoc]
    · simp
theorem applyN_append (S : S10) (a b : List (Bool × Int)) : applyN S (a ++ b) = ((applyN S a).1 + (applyN (applyN S a).2 b).1, (applyN (applyN S a).2 b).2) := by
  have : applyN S (a ++ b) = b.foldl applyStep (applyN S a) := by unfold applyN; rw [List.foldl_append]
  rw [this]
  exact fold_count b (applyN S a).1 (applyN S a).2
theorem applyN_one (S : S10) (c : Bool × Int) : applyN S [c] = (if (apply1 S c).1 then 1 else 0, (apply1 S c).2) := by
  show applyStep (0, S) c = _
  unfold applyStep; simp
theorem applyN_cons (S : S10) (c : Bool × Int) (l : List (Bool × Int)) : applyN S (c :: l) = ((if (apply1 S c).1 then 1 else 0) + (applyN (apply1 S c).2 l).1, (applyN (apply1 S c).2 l).2) := by
  have := applyN_append S [c] l
  rw [applyN_one] at this
  exact this
theorem applyN_mem : ∀ (l : List (Bool × Int)) (S : S10), (applyN S l).2.mem = S.mem ∧ (applyN S l).2.root = S.root
  | [], _ => ⟨rfl, rfl⟩
  | c :: l, S => by
    rw [applyN_cons]
    have h1 := applyN_mem l (apply1 S c).2
    have h2 := apply1_mem (S := S) c
    exact ⟨h1.1.trans h2.1, h1.2.trans h2.2⟩
theorem applyN_snug : ∀ (l : List (Bool × Int)) {S : S10}, Snug S → Snug (applyN S l).2
  | [], _, h => h
  | c :: l, S, h => by rw [applyN_cons]; exact applyN_snug l (h.apply c)
def fillsC (l : List (Bool × Int)) : Nat := l.countP fun c => c.1
theorem applyN_len : ∀ (l : List (Bool × Int)) (S : S10), (applyN S l).2.l.length ≤ S.l.length + fillsC l
  | [], _ => Nat.le_refl _
  | c :: l, S => by
    rw [applyN_cons]
    have h1 := applyN_len l (apply1 S c).2
    have h2 := apply1_len (S := S) c
    unfold fillsC at h1 ⊢
    rw [List.countP_cons]
    dsimp only
    omega
/-- of one page -/
structure Alike (n : Int) (S T : S10) : Prop where
  s : Snug S
  t : Snug T
  mem : S.mem = T.mem
  root : S.root = T.root
  at' : tget S.l 0 n = tget T.l 0 n
theorem Alike.left {n : Int} {S T : S10} (h : Alike n S T) {c : Bool × Int} (hc : c.2 ≠ n) : Alike n (apply1 S c).2 T :=
  ⟨h.s.apply c, h.t, (apply1_mem c).1.trans h.mem, (apply1_mem c).2.trans h.root, (apply1_other h.s c hc).trans h.at'⟩
theorem Alike.both {n : Int} {S T : S10} (h : Alike n S T) {c : Bool × Int} (hc : c.2 = n) : Alike n (apply1 S c).2 (apply1 T c).2 := by
  refine ⟨h.s.apply c, h.t.apply c, (apply1_mem c).1.trans (h.mem.trans (apply1_mem c).1.symm), (apply1_mem c).2.trans (h.root.trans (apply1_mem c).2.symm), ?_⟩
  obtain ⟨f, p⟩ := c
  dsimp only at hc
  subst hc
  cases hk : okC (f, p) with
  | false => rw [apply1_bad hk, apply1_bad hk]; exact h.at'
  | true =>
    cases f with
    | false =>
      rw [apply1_drop hk, apply1_drop hk]
      show tget (tdrop S.l 0 p) 0 p = tget (tdrop T.l 0 p) 0 p
      rw [tget_drop h.s.good.one, tget_drop h.t.good.one]
    | true =>
      rw [apply1_fill hk, apply1_fill hk]
      show tget (findR S.mem S.root S.l p).2 0 p = tget (findR T.mem T.root T.l p).2 0 p
      cases hg : tget S.l 0 p with
      | some x =>
        have hg' : tget T.l 0 p = some x := h.at'.symm.trans hg
        rw [find_known hg, find_known hg']
        exact h.at'
      | none =>
        have hg' : tget T.l 0 p = none := h.at'.symm.trans hg
        obtain ⟨⟨P, hw, k⟩, ho⟩ : ∃ o, out (wk (rd h16 S.mem) h16.length S.root p 0 false) = o := ⟨_, rfl⟩
        have ho' : out (wk (rd h16 T.mem) h16.length T.root p 0 false) = (P, hw, k) := by rw [← h.mem, ← h.root]; exact ho
        by_cases h0 : hw = 0
        · subst h0
          cases hu : P.ats.any (unused h16 S.mem) with
          | true =>
            rw [find_unm hg ho hu, find_unm hg' ho' (by rw [← h.mem]; exact hu)]
            exact h.at'
          | false =>
            rw [find_yes hg ho hu, find_yes hg' ho' (by rw [← h.mem]; exact hu)]
            exact (tget_put h.s.good.one (foundH p P false)).trans (tget_put h.t.good.one (foundH p P false)).symm
        · rw [find_bad hg ho h0, find_bad hg' ho' h0]
          exact h.at'
def ownC (n : Int) (l : List (Bool × Int)) : List (Bool × Int) := l.filter fun c => decide (c.2 = n)
theorem applyN_own (n : Int) : ∀ (l : List (Bool × Int)) {S T : S10}, Alike n S T → Alike n (applyN S l).2 (applyN T (ownC n l)).2
  | [], _, _, h => h
  | c :: l, S, T, h => by
    rw [applyN_cons]
    unfold ownC
    by_cases hc : c.2 = n
    · rw [List.filter_cons_of_pos (by simpa using hc), applyN_cons]
      exact applyN_own n l (h.both hc)
    · rw [List.filter_cons_of_neg (by simpa using hc)]
      exact applyN_own n l (h.left hc)
/-- a Fill behind a Drop of one page -/
theorem apply_refind {S : S10} (hS : Snug S) {n : Int} (hn : 0 ≤ n ∧ n < 512) :
    (applyN S [(false, n), (true, n)]).1 = (if (tget S.l 0 n).isSome then 1 else 0) + (if (findR S.mem S.root [] n).1 then 1 else 0) ∧
    tget (applyN S [(false, n), (true, n)]).2.l 0 n = tget (findS ⟨S.mem, S.root, []⟩ n).l 0 n ∧ (tget (findS ⟨S.mem, S.root, []⟩ n).l 0 n).isSome = (findR S.mem S.root [] n).1 := by
  have hk : ∀ f, okC (f, n) = true := fun f => by unfold okC; simp; exact hn
  rw [applyN_cons, applyN_one, apply1_drop (hk false), apply1_fill (hk true)]
  show ((if (tget S.l 0 n).isSome = true then 1 else 0) + (if (findR S.mem S.root (tdrop S.l 0 n) n).1 = true then 1 else 0)) = _ ∧ tget (findR S.mem S.root (tdrop S.l 0 n) n).2 0 n = tget (findR S.mem S.root [] n).2 0 n ∧ (tget (findR S.mem S.root [] n).2 0 n).isSome = _
  have g1 : tget (tdrop S.l 0 n) 0 n = none := tget_drop hS.good.one 0 n
  have g2 : tget ([] : List Hit) 0 n = none := rfl
  have g3 : tget (⟨S.mem, S.root, tdrop S.l 0 n⟩ : S10).l 0 n = none := g1
  have g4 : tget (⟨S.mem, S.root, []⟩ : S10).l 0 n = none := rfl
  obtain ⟨⟨P, hw, k⟩, ho⟩ : ∃ o, out (wk (rd h16 S.mem) h16.length S.root n 0 false) = o := ⟨_, rfl⟩
  by_cases h0 : hw = 0
  · subst h0
    cases hu : P.ats.any (unused h16 S.mem) with
    | true =>
      have e1 := find_unm g3 ho hu
      have e2 := find_unm g4 ho hu
      dsimp only at e1 e2 ⊢
      rw [e1, e2]
      exact ⟨rfl, g1.trans g2.symm, by rw [g2]; rfl⟩
    | false =>
      have e1 := find_yes g3 ho hu
      have e2 := find_yes g4 ho hu
      dsimp only at e1 e2 ⊢
      rw [e1, e2]
      have p1 : tget (tput 512 (tdrop S.l 0 n) (foundH n P false)) 0 n = some (foundH n P false) := tget_put (tdrop_pw hS.good.one _ _) (foundH n P false)
      have p2 : tget (tput 512 [] (foundH n P false)) 0 n = some (foundH n P false) := tget_put List.Pairwise.nil (foundH n P false)
      exact ⟨rfl, p1.trans p2.symm, by rw [p2]; rfl⟩
  · have e1 := find_bad g3 ho h0
    have e2 := find_bad g4 ho h0
    dsimp only at e1 e2 ⊢
    rw [e1, e2]
    exact ⟨rfl, g1.trans g2.symm, by rw [g2]; rfl⟩
/-! all pages forgotten -/
def dropsTo (k : Nat) : List (Bool × Int) := (List.range k).map fun p : Nat => (false, (p : Int))
theorem erase_filter {k : Int} : ∀ {l : List Hit}, l.Pairwise unlike → (∀ h, h ∈ l → h.asid = 0) → l.eraseP (ofKey 0 k) = l.filter fun h => decide (h.page ≠ k)
  | [], _, _ => rfl
  | x :: l, hp, ha => by
    rw [List.pairwise_cons] at hp
    by_cases hx : ofKey 0 k x = true
    · have hx' := ofKey_iff.1 hx
      rw [List.eraseP_cons_of_pos hx, List.filter_cons_of_neg (by simp [hx'.2])]
      symm
      rw [List.filter_eq_self]
      intro y hy
      have := hp.1 y hy
      rw [decide_eq_true_iff]
      intro e
      exact this ⟨(ha x List.mem_cons_self).trans (ha y (List.mem_cons_of_mem _ hy)).symm, hx'.2.trans e.symm⟩
    · have hne : x.page ≠ k := fun e => hx (ofKey_iff.2 ⟨ha x List.mem_cons_self, e⟩)
      rw [List.eraseP_cons_of_neg hx, List.filter_cons_of_pos (by simpa using hne), erase_filter hp.2 (fun h hm => ha h (List.mem_cons_of_mem _ hm))]
theorem find_count {k : Int} : ∀ {l : List Hit}, l.Pairwise unlike → (∀ h, h ∈ l → h.asid = 0) → (l.filter fun h => decide (h.page ≠ k)).length + (if (l.find? (ofKey 0 k)).isSome then 1 else 0) = l.length
  | [], _, _ => rfl
  | x :: l, hp, ha => by
    rw [List.pairwise_cons] at hp
    by_cases hx : ofKey 0 k x = true
    · have hx' := ofKey_iff.1 hx
      rw [List.find?_cons_of_pos hx, List.filter_cons_of_neg (by simp [hx'.2])]
      have : l.filter (fun h => decide (h.page ≠ k)) = l := by
        rw [List.filter_eq_self]
        intro y hy
        rw [decide_eq_true_iff]
        intro e
        exact hp.1 y hy ⟨(ha x List.mem_cons_self).trans (ha y (List.mem_cons_of_mem _ hy)).symm, hx'.2.trans e.symm⟩
      rw [this]; rfl
    · have hne : x.page ≠ k := fun e => hx (ofKey_iff.2 ⟨ha x List.mem_cons_self, e⟩)
      rw [List.find?_cons_of_neg hx, List.filter_cons_of_pos (by simpa using hne)]
      have := find_count (k := k) hp.2 (fun h hm => ha h (List.mem_cons_of_mem _ hm))
      simp only [List.length_cons]; omega
theorem drops_snug {S : S10} (hS : Snug S) : ∀ (k : Nat), k ≤ 512 → (applyN S (dropsTo k)).1 + (applyN S (dropsTo k)).2.l.length = S.l.length ∧ (∀ h, h ∈ (applyN S (dropsTo k)).2.l → (k : Int) ≤ h.page)
  | 0, _ => ⟨by show 0 + S.l.length = _; omega, fun h hm => (hS.pg h hm).1⟩
  | k + 1, hk => by
    obtain ⟨i1, i2⟩ := drops_snug hS k (by omega)
    have hd : dropsTo (k + 1) = dropsTo k ++ [(false, (k : Int))] := by unfold dropsTo; rw [List.range_succ, List.map_append]; rfl
    have hT := applyN_snug (dropsTo k) hS
    rw [hd, applyN_append, applyN_one]
    obtain ⟨⟨c, T⟩, hT'⟩ : ∃ x, applyN S (dropsTo k) = x := ⟨_, rfl⟩
    rw [hT'] at i1 i2 hT ⊢
    dsimp only at i1 i2 hT ⊢
    have hko : okC (false, (k : Int)) = true := by unfold okC; simp; omega
    rw [apply1_drop hko]
    dsimp only [dropS]
    have he := erase_filter (k := (k : Int)) hT.good.one (fun h hm => hT.asid h hm)
    have hc := find_count (k := (k : Int)) hT.good.one (fun h hm => hT.asid h hm)
    unfold tdrop tget
    rw [he]
    refine ⟨by omega, fun h hm => ?_⟩
    obtain ⟨h1, h2⟩ := List.mem_filter.1 hm
    have := i2 h h1
    simp at h2
    omega
theorem drops_all {S : S10} (hS : Snug S) : applyN S (dropsTo 512) = (S.l.length, ⟨S.mem, S.root, []⟩) := by
  obtain ⟨h1, h2⟩ := drops_snug hS 512 (Nat.le_refl _)
  have hm := applyN_mem (dropsTo 512) S
  have hT := applyN_snug (dropsTo 512) hS
  obtain ⟨⟨c, ⟨mem, root, l⟩⟩, hx⟩ : ∃ x, applyN S (dropsTo 512) = x := ⟨_, rfl⟩
  rw [hx] at h1 h2 hm hT ⊢
  dsimp only at h1 h2 hm hT
  obtain ⟨rfl, rfl⟩ := hm
  have hl : l = [] := by
    cases l with
    | nil => rfl
    | cons x l =>
      have := h2 x List.mem_cons_self
      have := (hT.pg x List.mem_cons_self).2
      omega
  subst hl
  simp at h1
  rw [h1]
theorem drops_none (mem : List Nat) (root : Int) : applyN ⟨mem, root, []⟩ (dropsTo 512) = (0, ⟨mem, root, []⟩) := drops_all (snug_nil mem root)
end Go.Proofs.YtgaififhhffpfaaGreatDoor
