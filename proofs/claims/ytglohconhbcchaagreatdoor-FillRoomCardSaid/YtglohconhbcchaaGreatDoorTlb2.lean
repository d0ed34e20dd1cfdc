/- Hits as they lie in memory; slices.IndexFunc, slices.Delete and slices.Clone at hits. tlb.Tlb: its state, and the contracts of New, at, Get, Drop, Put, All, List. tlb.Tlb's state and the contracts of New, Get, Drop, Put, All, List. tlb.Tlb's Put. -/
import Derived.Test.YtglohconhbcchaaGreatDoorHead
import Derived.Test.YtglohconhbcchaaGreatDoorPath
import Derived.Laws.StructEq
import Derived.Deep.RegionLaw
import Derived.Laws.IdiomCopy
import Derived.Lib.SliceRun
import Derived.Deep.AppendLies
namespace Go.Proofs.YtglohconhbcchaaGreatDoor
open Go.RowKit Go.Shelf

structure Hit where
  asid : Int
  page : Int
  frame : Int
  r : Rt
  dirty : Bool
  deriving DecidableEq
def Hit.cells (h : Hit) : List Value := [.int .i64 h.asid, .int .i64 h.page, .int .i64 h.frame, .bool h.r.w, .bool h.r.u, .bool h.r.x, .bool h.dirty]
def hitsC (l : List Hit) : List Value := l.flatMap Hit.cells
def hit0 : Hit := ⟨0, 0, 0, ⟨false, false, false⟩, false⟩
theorem hitsC_len (l : List Hit) : (hitsC l).length = l.length * 7 := by
  induction l with
  | nil => rfl
  | cons a l ih => simp only [hitsC, List.flatMap_cons] at ih ⊢; simp only [List.length_append, List.length_cons, ih, Hit.cells, List.length_nil]; omega
theorem hitsC_append (l l' : List Hit) : hitsC (l ++ l') = hitsC l ++ hitsC l' := by simp [hitsC]
theorem hitsC_get (l : List Hit) (k j : Nat) (hk : k < l.length) (hj : j < 7) : (hitsC l)[k * 7 + j]? = (l.getD k hit0).cells[j]? := by
  induction l generalizing k with
  | nil => simp at hk
  | cons a l ih =>
    have hc : (hitsC (a :: l)) = a.cells ++ hitsC l := rfl
    have ha : a.cells.length = 7 := rfl
    cases k with
    | zero => rw [hc, List.getElem?_append_left (by omega)]; simp
    | succ k =>
      rw [hc, List.getElem?_append_right (by omega), show (k + 1) * 7 + j - a.cells.length = k * 7 + j by omega, ih k (by simpa using hk)]
      simp
theorem hitsC_one (l : List Hit) : ∀ u ∈ hitsC l, u.oneCell' = true := by
  intro u hu
  obtain ⟨h, _, hu⟩ := List.mem_flatMap.1 hu
  simp only [Hit.cells, List.mem_cons, List.not_mem_nil, or_false] at hu
  rcases hu with rfl | rfl | rfl | rfl | rfl | rfl | rfl <;> rfl

/-- a slice of hits that is owned, or nil -/
def HRow (w : World) (v : Value) (l : List Hit) : Prop := w.ownsRow 0 101 7 v l.length (hitsC l)
theorem HRow.nil (w : World) : HRow w (.slice none 0 0) [] := World.ownsRow_nil _ _ _ _
theorem HRow.past {w w' : World} {v : Value} {l : List Hit} (h : HRow w v l) (hb : Below w.heap.size w w') : HRow w' v l := World.ownsRow.kept h (grownBy_of_below hb) (by cases v.ownBlock <;> simp)
theorem HRow.view {w : World} {v : Value} {l : List Hit} (h : HRow w v l) : (v = .slice none 0 0 ∧ l = []) ∨ ∃ g cap rest, v = .slice (some ⟨g, 0, none⟩) l.length cap ∧ Blk w g 101 (hitsC l ++ rest) ∧ l.length ≤ cap ∧ cap ≤ maxLen ∧ l.length * 7 + rest.length = cap * 7 := by
  rcases h.2 with ⟨e1, e2⟩ | ⟨g, cap, cur, rfl, _, h3, h4, h5, h6, h7⟩
  · exact .inl ⟨e1, List.length_eq_zero_iff.1 e2⟩
  · refine .inr ⟨g, cap, cur.toList.drop (l.length * 7), rfl, ?_, h4, h5, ?_⟩
    · unfold Blk
      rw [h3, ← h7, List.take_append_drop]
    · have : cur.toList.length = cap * 7 := by simpa using h6
      rw [List.length_drop, this]
      have := Nat.mul_le_mul_right 7 h4
      omega
theorem HRow.mk' {w : World} {l : List Hit} {g cap : Nat} {rest : List Value} (hb : Blk w g 101 (hitsC l ++ rest)) (h1 : l.length ≤ cap) (h2 : cap ≤ maxLen) (h3 : l.length * 7 + rest.length = cap * 7) : HRow w (.slice (some ⟨g, 0, none⟩) l.length cap) l := by
  refine ⟨hitsC_len l, .inr ⟨g, cap, (hitsC l ++ rest).toArray, rfl, Nat.zero_le _, hb, h1, h2, ?_, ?_⟩⟩
  · simp [hitsC_len]; omega
  · simp [← hitsC_len]
theorem HRow.other {w : World} {v : Value} {l : List Hit} (h : HRow w v l) {b : Nat} {T : TypeId} {xs : List Value} (hb : Blk w b T xs) (hT : T ≠ 101) (j : Nat) (x : Value) : HRow (w.setCell ⟨b, j, none⟩ x) v l := by
  refine ownsRow_setCell_other h (fun e => ?_) _
  obtain ⟨c, fr, hc⟩ := ownRow_cells h _ e
  unfold Blk at hb; rw [hb] at hc; simp at hc; exact hT hc.2.1

/-- where the first one stands of which something is so; -1: nowhere -/
def fidxFrom {α : Type} (b : α → Bool) : List α → Nat → Int
  | [], _ => -1
  | x :: r, i => if b x then (i : Int) else fidxFrom b r (i + 1)
def fidx {α : Type} (b : α → Bool) (l : List α) : Int := fidxFrom b l 0
theorem fidxFrom_none {α : Type} (b : α → Bool) : ∀ (l : List α) (i : Nat), l.any b = false → fidxFrom b l i = -1
  | [], _, _ => rfl
  | x :: r, i, h => by
    simp only [List.any_cons, Bool.or_eq_false_iff] at h
    simp only [fidxFrom, h.1]
    exact fidxFrom_none b r (i + 1) h.2
theorem fidxFrom_some {α : Type} (b : α → Bool) : ∀ (l : List α) (i k : Nat) (hk : k < l.length), (l.take k).any b = false → b l[k] = true → fidxFrom b l i = ((i + k : Nat) : Int)
  | [], _, _, hk, _, _ => by simp at hk
  | x :: r, i, 0, _, _, h => by simp only [List.getElem_cons_zero] at h; simp [fidxFrom, h]
  | x :: r, i, k + 1, hk, h0, h => by
    simp only [List.take_succ_cons, List.any_cons, Bool.or_eq_false_iff] at h0
    simp only [fidxFrom, h0.1]
    have := fidxFrom_some b r (i + 1) k (by simpa using hk) h0.2 (by simpa using h)
    rw [show (if false = true then (i : Int) else fidxFrom b r (i + 1)) = fidxFrom b r (i + 1) from rfl, this]
    congr 1; omega
theorem fidx_forms {α : Type} (b : α → Bool) (l : List α) : (l.any b = false ∧ fidx b l = -1 ∧ l.find? b = none ∧ l.eraseP b = l) ∨ ∃ k, ∃ hk : k < l.length, fidx b l = (k : Int) ∧ l.find? b = some l[k] ∧ l.eraseP b = l.eraseIdx k ∧ l.any b = true := by
  unfold fidx
  have gen : ∀ (l : List α) (i : Nat), (l.any b = false ∧ fidxFrom b l i = -1 ∧ l.find? b = none ∧ l.eraseP b = l) ∨ ∃ k, ∃ hk : k < l.length, fidxFrom b l i = ((i + k : Nat) : Int) ∧ l.find? b = some l[k] ∧ l.eraseP b = l.eraseIdx k ∧ l.any b = true := by
    intro l
    induction l with
    | nil => intro i; exact .inl ⟨rfl, rfl, rfl, rfl⟩
    | cons x r ih =>
      intro i
      cases hx : b x with
      | true => exact .inr ⟨0, by simp, by simp [fidxFrom, hx], by simp [hx], by simp [hx], by simp [hx]⟩
      | false =>
        rcases ih (i + 1) with ⟨h1, h2, h3, h4⟩ | ⟨k, hk, h2, h3, h4, h5⟩
        · exact .inl ⟨by simp [hx, h1], by simp [fidxFrom, hx, h2], by simp [hx, h3], by simp [hx, h4]⟩
        · exact .inr ⟨k + 1, by simpa using hk, by simp only [fidxFrom, hx]; rw [show (if false = true then (i : Int) else fidxFrom b r (i + 1)) = fidxFrom b r (i + 1) from rfl, h2]; congr 1; omega, by simp [hx, h3], by simp [hx, h4], by simp [hx, h5]⟩
  rcases gen l 0 with h | ⟨k, hk, h1, h2⟩
  · exact .inl h
  · exact .inr ⟨k, hk, by rw [h1, Nat.zero_add], h2⟩

set_option maxRecDepth 100000 in
set_option maxHeartbeats 2000000 in
theorem hindex_any (w : World) (v : Value) (l : List Hit) (g : Nat) (lb : Array Value) (b : Hit → Bool) (hr : HRow w v l) (hsm : l.length ≤ 1000000)
    (eg : ∀ args w, (callFunc g args).run Tryz.prog w = .ok (.enter g args) w)
    (hp : ∀ x, x ∈ l → ∀ W, Below w.heap.size w W → Calls Tryz.prog g (#[.agg #[.int .i64 x.asid, .int .i64 x.page, .int .i64 x.frame, .bool x.r.w, .bool x.r.u, .bool x.r.x, .bool x.dirty]] ++ lb) W fun e W' => e = .returned (.bool (b x)) ∧ Below W.heap.size W W') :
    Calls Tryz.prog 188 #[v, .func (.func g) #[] lb] w
      fun e w' => e = .returned (.int .i64 (fidx b l)) ∧ Below w.heap.size w w' := by
  rcases hr.view with ⟨rfl, rfl⟩ | ⟨B, cap, rest, rfl, hb, hc1, hc2, hc3⟩
  · clear hp eg hr
    go_enter Tryz.func188, Tryz.ntmps188
    go_wp2
    go_rounds 1
    go_wp2
    go_ret
    exact ⟨rfl, Below.refl _ _⟩
  · obtain ⟨len, hlen⟩ : ∃ len, l.length = len := ⟨_, rfl⟩
    rw [hlen] at hsm ⊢
    have HL := Lib.hid hlen
    have HP := Lib.hid hp
    obtain ⟨res, hres⟩ : ∃ res, fidx b l = res := ⟨_, rfl⟩
    rw [hres]
    have HR := Lib.hid hres
    clear hlen hp hr hc1 hc2 hc3 hres
    go_enter Tryz.func188, Tryz.ntmps188
    go_wp2
    go_loopw [8] (fun i wr => ∃ k : Nat, k ≤ len ∧ i = .int .i64 k ∧ (l.take k).any b = false ∧ Below w.heap.size w wr) (fun i _ => len - (intOf i).toNat)
    case atStart => exact ⟨0, by omega, rfl, by simp, Below.refl _ _⟩
    case round =>
      obtain ⟨k, hk, rfl, hno, hB⟩ := hrel
      by_cases hkl : k < len
      · have hB' := hb.past hB
        have hkl' : k < l.length := by rw [HL.out]; exact hkl
        obtain ⟨x, hx⟩ : ∃ x, l.getD k hit0 = x := ⟨_, rfl⟩
        have hcl : ∀ j u, j < 7 → x.cells[j]? = some u → wr.cell? ⟨B, k * 7 + j, none⟩ = some u := fun j u hj hu => hB'.cell (by
          rw [List.getElem?_append_left (by rw [hitsC_len]; omega), hitsC_get l k j hkl' hj, hx]; exact hu)
        have c0 : wr.cell? ⟨B, k * 7, none⟩ = some (.int .i64 x.asid) := hcl 0 _ (by omega) rfl
        have c1 := hcl 1 _ (by omega) rfl
        have c2 := hcl 2 _ (by omega) rfl
        have c3 := hcl 3 _ (by omega) rfl
        have c4 := hcl 4 _ (by omega) rfl
        have c5 := hcl 5 _ (by omega) rfl
        have c6 := hcl 6 _ (by omega) rfl
        have hxm : x ∈ l := by rw [← hx, getD_at _ hkl']; exact List.getElem_mem _
        have hcall := HP.out x hxm wr hB
        have htake : (l.take (k + 1)).any b = b x := by
          rw [List.take_add_one, List.getElem?_eq_getElem hkl', List.any_append, hno, ← hx, getD_at _ hkl']; simp
        have hany : b x = true → res = (k : Int) := fun h => by
          rw [← HR.out]; unfold fidx
          rw [fidxFrom_some b l 0 k hkl' hno (by rw [← hx, getD_at _ hkl'] at h; exact h), Nat.zero_add]
        obtain ⟨bx, hbx⟩ : ∃ bx, b x = bx := ⟨_, rfl⟩
        rw [hbx] at hcall htake hany
        have HT := Lib.hid htake
        have HA := Lib.hid hany
        clear htake hany hbx hx hxm hb hB' hcl hno hkl'
        cases bx
        · go_wp2_with ((with_reducible refine Calls.mono hcall ?_); rintro e W' ⟨rfl, hb2⟩)
          go_roundw
          case rel => exact ⟨k + 1, by omega, by go_num, HT.out, hB.trans (hb2.mono hB.size)⟩
          case measure => simp [intOf]; omega
        · go_wp2_with ((with_reducible refine Calls.mono hcall ?_); rintro e W' ⟨rfl, hb2⟩)
          go_ret
          have hr := HA.out trivial
          exact ⟨by rw [hr]; rfl, hB.trans (hb2.mono hB.size)⟩
      · obtain rfl : k = len := by omega
        have hr : res = -1 := by
          rw [← HR.out]; unfold fidx
          rw [← HL.out, List.take_length] at hno
          exact fidxFrom_none b l 0 hno
        clear hno
        go_wp2
        go_ret
        exact ⟨by rw [hr]; rfl, hB⟩

theorem Blk.setCells {b : Nat} {T : TypeId} : ∀ (vs pre mid post : List Value) {w : World}, Blk w b T (pre ++ mid ++ post) → vs.length = mid.length → Blk (w.setCells b pre.length vs) b T (pre ++ vs ++ post)
  | [], pre, mid, post, w, h, hl => by
    have : mid = [] := List.length_eq_zero_iff.1 hl.symm
    subst this; exact h
  | v :: r, pre, [], post, w, h, hl => by simp at hl
  | v :: r, pre, m :: mid, post, w, h, hl => by
    have h1 := h.set pre.length v
    have e : (pre ++ (m :: mid) ++ post).set pre.length v = (pre ++ [v]) ++ mid ++ post := by
      rw [List.append_assoc, List.set_append_right _ _ (Nat.le_refl _)]; simp
    rw [e] at h1
    have h2 := Blk.setCells r (pre ++ [v]) mid post h1 (by simpa using hl)
    simp only [List.length_append, List.length_cons, List.length_nil, List.append_assoc, List.cons_append, List.nil_append] at h2 ⊢
    exact h2
theorem Kept.setCells {B : Nat} {S : Nat → Prop} {a : World} {b : Nat} (hS : S b ∨ B ≤ b) : ∀ (vs : List Value) (o : Nat) {W : World}, Kept B S a W → Kept B S a (W.setCells b o vs)
  | [], _, _, h => h
  | v :: r, o, _, h => Kept.setCells hS r (o + 1) (h.setCell (p := ⟨b, o, none⟩) hS v)

theorem addh (b off j : Nat) : (⟨b, off, none⟩ : Addr).add j = ⟨b, off + j, none⟩ := by
  unfold Addr.add; split <;> simp_all
def zeroHit : Value := .agg #[.int .i64 0, .int .i64 0, .int .i64 0, .bool false, .bool false, .bool false, .bool false]
theorem zero_hit (w : World) : (zeroValue 101).run Tryz.prog w = .ok zeroHit w := by kernel_rfl
theorem info_hit : (Tryz.prog.info? 101).map (fun i => (i.zero, i.size, i.bytes)) = some (some zeroHit, 7, 32) := by kernel_rfl
theorem run_clear_hit (w : World) (ty : TypeId) (b o c : Nat) (hc : ∀ j, j < 7 → (w.cell? ⟨b, o + j, none⟩).isSome = true) (hf : ∀ j, j < 7 → w.frozen? ⟨b, o + j, none⟩ = false) :
    (Builtin.clear_ #[104] ty #[.slice (some ⟨b, o, none⟩) 1 c]).run Tryz.prog w = .ok (.tuple #[]) (w.setCells b o hit0.cells) := by
  have hzc : (Builtin.zeroCells zeroHit.cells 1).toList = hit0.cells := by kernel_rfl
  have hst := run_storeCells_cells (P := Tryz.prog) b o hit0.cells 0 w (by simpa [Hit.cells] using hc) (by simpa [Hit.cells] using hf) (by intro v hv'; exact hitsC_one [hit0] v (by simpa [hitsC] using hv'))
  simp only [Nat.add_zero] at hst
  have hz := fun w => zero_hit w
  obtain ⟨z, hz0⟩ : ∃ z, zeroHit = z := ⟨_, rfl⟩
  obtain ⟨zs, hzs⟩ : ∃ z, hit0.cells = z := ⟨_, rfl⟩
  rw [hz0] at hz hzc
  rw [hzs] at hst hzc ⊢
  simp [Builtin.clear_, run_underlying Tryz.underlying104, hz, hzc, hst]

set_option maxRecDepth 100000 in
set_option maxHeartbeats 2000000 in
theorem hdel_any (w : World) (g cap i j : Nat) (hij : j = i + 1) (l : List Hit) (rest : List Value) (hb : Blk w g 101 (hitsC l ++ rest)) (h1 : l.length ≤ cap) (h2 : cap ≤ maxLen) (h3 : l.length * 7 + rest.length = cap * 7) (hi : i < l.length) :
    Calls Tryz.prog 91 #[.slice (some ⟨g, 0, none⟩) l.length cap, .int .i64 (i : Int), .int .i64 (j : Int)] w
      fun e w' => e = .returned (.slice (some ⟨g, 0, none⟩) (l.eraseIdx i).length cap) ∧ HRow w' (.slice (some ⟨g, 0, none⟩) (l.eraseIdx i).length cap) (l.eraseIdx i) ∧ Kept w.heap.size (fun k => k = g) w w' := by
  obtain ⟨i0, hi0, hz0, hz1, hz2⟩ := info_parts info_hit
  unfold maxLen at h2
  obtain ⟨news, hnews⟩ : ∃ news, news = hitsC (l.drop (i + 1)) := ⟨_, rfl⟩
  have hlen : news.length = (l.length - (i + 1)) * 7 := by rw [hnews, hitsC_len, List.length_drop]
  have hsplit : hitsC l = hitsC (l.take i) ++ (l[i].cells ++ news) := by
    rw [hnews]
    conv => lhs; rw [← List.take_append_drop i l, hitsC_append, List.drop_eq_getElem_cons hi]
    rfl
  have htl : (hitsC (l.take i)).length = i * 7 := by rw [hitsC_len, List.length_take]; congr 1; omega
  have hcellN : ∀ t u, news[t]? = some u → w.drew.cell? ⟨g, (i + 1) * 7 + t, none⟩ = some u := fun t u hu => by
    have ht : t < news.length := (List.getElem?_eq_some_iff.1 hu).1
    show w.cell? _ = _
    refine hb.cell ?_
    rw [hsplit, List.append_assoc, List.getElem?_append_right (by omega), htl, List.append_assoc, List.getElem?_append_right (by show 7 ≤ _; omega), List.getElem?_append_left (by show _ - 7 < _; omega), ← hu]
    congr 1; show (i + 1) * 7 + t - i * 7 - 7 = t; omega
  obtain ⟨A, hA, hsrc⟩ : ∃ A : Addr, (if cap = j then (some (⟨g, 0, none⟩ : Addr)) else some ⟨g, j * 7, none⟩) = some A ∧ Hid (∀ t u, news[t]? = some u → w.drew.cell? (A.add t) = some u) := by
    by_cases h : cap = j
    · refine ⟨⟨g, 0, none⟩, by simp [h], Lib.hid fun t u hu => ?_⟩
      have h0 : news.length = 0 := by rw [hlen]; omega
      rw [List.length_eq_zero_iff.1 h0] at hu
      simp at hu
    · refine ⟨⟨g, j * 7, none⟩, by simp [h], Lib.hid fun t u hu => ?_⟩
      rw [addh, hij]; exact hcellN t u hu
  have hall : ∀ t, t < cap * 7 → (w.drew.cell? ⟨g, t, none⟩).isSome = true ∧ w.drew.frozen? ⟨g, t, none⟩ = false := fun t ht => by
    have hlt : t < (hitsC l ++ rest).length := by rw [List.length_append, hitsC_len]; omega
    refine ⟨?_, hb.free t⟩
    show (w.cell? _).isSome = true
    rw [hb.cell (List.getElem?_eq_getElem hlt)]; rfl
  have s1 : Hid (news.length = (l.length - j) * 7) := Lib.hid (by rw [hij]; exact hlen)
  have s2 : Hid (∀ u ∈ news, u.oneCell' = true) := Lib.hid (by rw [hnews]; exact hitsC_one _)
  have s3 : Hid (∀ t, t < news.length → (w.drew.cell? ⟨g, 0 + i * 7 + t, none⟩).isSome = true ∧ w.drew.frozen? ⟨g, 0 + i * 7 + t, none⟩ = false) := Lib.hid fun t ht => by
    have hq : 0 + i * 7 + t < cap * 7 := by rw [hlen] at ht; omega
    exact hall _ hq
  obtain ⟨W1, hW1⟩ : ∃ W1, W1 = w.drew.setCells g (0 + i * 7) news := ⟨_, rfl⟩
  have hB1 : ∃ lst rest1, Blk W1 g 101 (hitsC (l.eraseIdx i) ++ (lst ++ rest1)) ∧ lst.length = 7 ∧ (l.eraseIdx i).length * 7 + (lst ++ rest1).length = cap * 7 := by
    have hE : hitsC (l.eraseIdx i) = hitsC (l.take i) ++ news := by
      rw [List.eraseIdx_eq_take_drop_succ, hitsC_append, hnews]
    have hcut : hitsC l ++ rest = hitsC (l.take i) ++ (l[i].cells ++ news).take news.length ++ ((l[i].cells ++ news).drop news.length ++ rest) := by
      have e := List.take_append_drop news.length (l[i].cells ++ news)
      rw [hsplit]
      conv => lhs; rw [← e]
      simp only [List.append_assoc]
    have hb' := hb.drew
    rw [hcut] at hb'
    have h := Blk.setCells news (hitsC (l.take i)) _ _ hb' (by rw [List.length_take, List.length_append]; omega)
    rw [htl, ← Nat.zero_add (i * 7), ← hW1, ← hE] at h
    have hl1 : (l[i].cells ++ news).length = 7 + news.length := by rw [List.length_append]; rfl
    have hl2 : ((l[i].cells ++ news).drop news.length).length = 7 := by rw [List.length_drop, hl1]; omega
    refine ⟨_, rest, h, hl2, ?_⟩
    rw [List.length_append, hl2, List.length_eraseIdx_of_lt hi]; omega
  obtain ⟨lst, rest1, hB1, hl7, htot⟩ := hB1
  have hle : (l.eraseIdx i).length = l.length - 1 := List.length_eraseIdx_of_lt hi
  have hK1 : Kept w.heap.size (fun k => k = g) w W1 := by rw [hW1]; exact Kept.setCells (S := fun k => k = g) (.inl rfl) _ _ ((Kept.refl _ _ w).drewN 1)
  have hcl : ∀ ty, (Builtin.clear_ #[104] ty #[.slice (some ⟨g, (i + (l.length - j)) * 7, none⟩) (l.length - (i + (l.length - j))) (cap - (i + (l.length - j)))]).run Tryz.prog W1 = .ok (.tuple #[]) (W1.setCells g ((i + (l.length - j)) * 7) hit0.cells) := fun ty => by
    rw [show l.length - (i + (l.length - j)) = 1 by omega]
    refine run_clear_hit W1 ty g _ _ (fun q hq => ?_) (fun q hq => hB1.free _)
    have hlt : (i + (l.length - j)) * 7 + q < (hitsC (l.eraseIdx i) ++ (lst ++ rest1)).length := by rw [List.length_append, hitsC_len, hle, List.length_append, hl7]; omega
    rw [hB1.cell (List.getElem?_eq_getElem hlt)]; rfl
  obtain ⟨n, hn⟩ : ∃ n, l.length = n := ⟨_, rfl⟩
  have hW : Hid (W1 = w.drew.setCells g (0 + i * 7) news) := Lib.hid hW1
  have HB1 := Lib.hid hB1
  have HK1 := Lib.hid hK1
  have HLe := Lib.hid hle
  have HTot := Lib.hid htot
  have HL7 := Lib.hid hl7
  rw [hn] at h1 h3 hi hcl s1 HLe ⊢
  have HN := Lib.hid hn
  have hic : i ≤ cap := by omega
  have hjn : j ≤ n := by omega
  have hjc : j ≤ cap := by omega
  have hlt : i < j := by omega
  have hne : ((i : Int) == (j : Int)) = false := beq_eq_false_iff_ne.2 (by omega)
  have HIJ := Lib.hid hij
  clear hW1 hB1 hK1 hle htot hl7 hn hb h3 hnews hlen hsplit htl hcellN hall hi hij
  go_enter Tryz.func91, Tryz.ntmps91
  go_wp2_with fail
  go_region_law (refine step_append_room rfl (.tmp 22) (.tmp 25) 104 rfl 101 i0 7 Tryz.underlying104 hi0 hz1 g 0 i cap (by simp [Act.eval, Act.put]) A (n - j) (cap - j) news (by simp [Act.eval, Act.put]) s1.out hsrc.out s2.out (by omega) s3.out ?_; rw [← hW.out])
  go_wp2_with fail
  go_ret
  have e : i + (n - j) = (l.eraseIdx i).length := by have := HIJ.out; rw [HLe.out]; omega
  have hr := HB1.out
  rw [← List.append_assoc] at hr
  have h := Blk.setCells hit0.cells (hitsC (l.eraseIdx i)) _ _ hr HL7.out.symm
  rw [hitsC_len, ← e, List.append_assoc] at h
  refine ⟨by rw [← e]; rfl, ?_, Kept.setCells (S := fun k => k = g) (.inl rfl) _ _ HK1.out⟩
  have htot := HTot.out
  rw [List.length_append, HL7.out] at htot
  exact HRow.mk' h (by rw [HLe.out]; omega) (by unfold maxLen; omega) (by rw [List.length_append]; show _ + (7 + _) = _; omega)
end Go.Proofs.YtglohconhbcchaaGreatDoor

namespace Go.Proofs.YtglohconhbcchaaGreatDoor
open Go.RowKit Go.Shelf

theorem ownsRow_base0 {w : World} {base : Nat} {e : TypeId} {size : Nat} {v : Value} {k : Nat} {xs : List Value} (h : w.ownsRow base e size v k xs) : w.ownsRow 0 e size v k xs := ownsRow_base h (Nat.zero_le _)
theorem heql_nil (g k c : Nat) (w : World) : (binOp .eql 104 (.slice (some ⟨g, 0, none⟩) k c) (.slice none 0 0)).run Tryz.prog w = .ok (.bool false) w := by kernel_rfl
theorem heql_nil0 (w : World) : (binOp .eql 104 (.slice none 0 0) (.slice none 0 0)).run Tryz.prog w = .ok (.bool true) w := by kernel_rfl
set_option maxRecDepth 100000 in
theorem hclone_any (w : World) (v : Value) (l : List Hit) (hr : HRow w v l) (hsm : l.length ≤ 1000000) :
    Calls Tryz.prog 101 #[v] w fun e w' => (∃ v', e = .returned v' ∧ HRow w' v' l) ∧ Below w.heap.size w w' := by
  rcases hr.view with ⟨rfl, rfl⟩ | ⟨g, cap, rest, rfl, hb, _, _, _⟩
  · clear hr
    have hnil := heql_nil0
    go_enter Tryz.func101, Tryz.ntmps101
    go_wp2
    go_ret
    exact ⟨⟨_, rfl, HRow.nil _⟩, Below.refl _ _⟩
  · obtain ⟨i0, hi, hz0, hz1, hz2⟩ := info_parts info_hit
    obtain ⟨n, hn⟩ : ∃ n, l.length = n := ⟨_, rfl⟩
    have hcells : ∀ (o : Obj) j u, (hitsC l)[j]? = some u → (w.alloc o).cell? ((⟨g, 0, none⟩ : Addr).add j) = some u := by
      intro o j u hu
      rw [add0]
      refine (hb.alloc o).cell ?_
      rw [List.getElem?_append_left (List.getElem?_eq_some_iff.1 hu).1]; exact hu
    have hg := hb.lt
    have hl : (hitsC l).length = n * 7 := by rw [hitsC_len, hn]
    have hx := hitsC_one l
    rw [hn] at hsm ⊢
    have HN := Lib.hid hn
    have HC := Lib.hid hcells
    have HX := Lib.hid hx
    have HL := Lib.hid hl
    have H1 := Lib.hid hi
    have HZ0 := Lib.hid hz0
    have HZ1 := Lib.hid hz1
    have HZ2 := Lib.hid hz2
    have hnil := fun w => heql_nil g n cap w
    have hemp : (w.alloc (.cells #[] 101)).ownsRow w.heap.size 101 7 (.slice (some ⟨w.heap.size, 0, none⟩) 0 0) 0 [] := ⟨rfl, .inr ⟨w.heap.size, 0, #[], rfl, Nat.le_refl _, heap_alloc_new w _, Nat.le_refl _, by unfold maxLen; omega, rfl, rfl⟩⟩
    clear hcells hx hl hi hz0 hz1 hz2 hb hr hn
    go_enter Tryz.func101, Tryz.ntmps101
    go_wp2_with (first
      | (at_builtin; refine wpList_append_own _ rfl _ _ 104 rfl w.heap.size 101 i0 _ 7 32 Tryz.underlying104 H1.out HZ0.out HZ1.out HZ2.out rfl (by decide) _ 0 [] rfl hemp ⟨g, 0, none⟩ n cap (hitsC l) rfl HL.out (HC.out _) HX.out (by unfold maxLen; omega) (by omega) (by simp) ?_; intro v' w2 hown hgrow hnz; have HO := Lib.hid hown; have HG := Lib.hid hgrow; clear hown hgrow hnz hemp))
    go_ret
    have BB : Below w.heap.size w w2 := ((Below.refl _ w).alloc (Nat.le_refl _) _).grown HG.out (by simp) (fun r e => Nat.le_of_eq (Option.some.inj (show some w.heap.size = some r from e)))
    refine ⟨⟨_, rfl, ?_⟩, BB⟩
    have ho := ownsRow_base0 HO.out
    simp only [List.nil_append, Nat.zero_add] at ho
    unfold HRow
    rw [HN.out]; exact ho

/-- is a hit one of a space and a page? -/
def ofKey (asid page : Int) (h : Hit) : Bool := decide (h.asid = asid) && decide (h.page = page)
theorem keyOf_any (w : World) (x : Hit) :
    Calls Tryz.prog 190 #[.agg #[.int .i64 x.asid, .int .i64 x.page, .int .i64 x.frame, .bool x.r.w, .bool x.r.u, .bool x.r.x, .bool x.dirty]] w
      fun e w' => e = .returned (.agg #[.int .i64 x.asid, .int .i64 x.page]) ∧ Below w.heap.size w w' := by
  obtain ⟨a, p, f, ⟨rw', ru, rx⟩, d⟩ := x
  dsimp only
  go_enter Tryz.func190, Tryz.ntmps190
  go_wp2
  refine bodyPost_ret (v := .agg #[.int .i64 a, .int .i64 p]) (by simp [results, Tryz.results190, go_sem]) rfl ⟨rfl, ?_⟩
  go_grown
set_option maxRecDepth 100000 in
set_option maxHeartbeats 1000000 in
theorem atp_any (w : World) (kb : Nat) (x : Hit) (asid page : Int) (hk : Blk w kb 253 [.int .i64 asid, .int .i64 page]) :
    Calls Tryz.prog 189 #[.agg #[.int .i64 x.asid, .int .i64 x.page, .int .i64 x.frame, .bool x.r.w, .bool x.r.u, .bool x.r.x, .bool x.dirty], .pointer (some ⟨kb, 0, none⟩)] w
      fun e w' => e = .returned (.bool (ofKey asid page x)) ∧ Below w.heap.size w w' := by
  have hof := fun W => keyOf_any W x
  obtain ⟨a, p, f, ⟨rw', ru, rx⟩, d⟩ := x
  unfold ofKey
  dsimp only at hof ⊢
  have b0 := bal w (.cells #[.int .i64 a, .int .i64 p, .int .i64 f, .bool rw', .bool ru, .bool rx, .bool d] 101)
  have hx := Blk.new w 101 [.int .i64 a, .int .i64 p, .int .i64 f, .bool rw', .bool ru, .bool rx, .bool d]
  have hk' := hk.past b0
  obtain ⟨w0, hw0⟩ : ∃ w0, w.alloc (.cells #[.int .i64 a, .int .i64 p, .int .i64 f, .bool rw', .bool ru, .bool rx, .bool d] 101) = w0 := ⟨_, rfl⟩
  obtain ⟨xb, hxb⟩ : ∃ xb, w.heap.size = xb := ⟨_, rfl⟩
  have hxe : w0.heap.size = w0.heap.size := rfl
  rw [show (w.alloc (.cells [Value.int .i64 a, .int .i64 p, .int .i64 f, .bool rw', .bool ru, .bool rx, .bool d].toArray 101)) = w0 from hw0] at hx
  rw [hw0] at b0 hk'
  have HOf := Lib.hid hof
  have HW := Lib.hid hw0
  have HK := Lib.hid hk'
  have HX := Lib.hid hx
  have HXB := Lib.hid hxb
  clear hof hw0 hk hk' hx hxe hxb
  have u1 := Tryz.underlying253
  have hp1 : Tryz.prog.stoodInHeld 253 = false := by kernel_rfl
  have hg1 : Tryz.prog.eqGuardType Tryz.prog.depth 253 = false := by kernel_rfl
  go_enter Tryz.func189, Tryz.ntmps189
  go_wp2_with fail
  rw [HW.out, HXB.out]
  rw [HXB.out] at HX
  have x0 := HX.out.cell (k := 0) rfl
  have x1 := HX.out.cell (k := 1) rfl
  have x2 := HX.out.cell (k := 2) rfl
  have x3 := HX.out.cell (k := 3) rfl
  have x4 := HX.out.cell (k := 4) rfl
  have x5 := HX.out.cell (k := 5) rfl
  have x6 := HX.out.cell (k := 6) rfl
  have k0 := HK.out.cell (k := 0) rfl
  have k1 := HK.out.cell (k := 1) rfl
  by_cases e1 : a = asid
  · subst e1
    by_cases e2 : p = page
    · subst e2
      go_region_held3 (fun w' => w'.cell? ⟨xb, 0, none⟩ = some (.int .i64 a) ∧ w'.cell? ⟨xb, 1, none⟩ = some (.int .i64 p) ∧ w'.cell? ⟨xb, 2, none⟩ = some (.int .i64 f) ∧ w'.cell? ⟨xb, 3, none⟩ = some (.bool rw') ∧ w'.cell? ⟨xb, 4, none⟩ = some (.bool ru) ∧ w'.cell? ⟨xb, 5, none⟩ = some (.bool rx) ∧ w'.cell? ⟨xb, 6, none⟩ = some (.bool d) ∧ w'.cell? ⟨kb, 0, none⟩ = some (.int .i64 a) ∧ w'.cell? ⟨kb, 1, none⟩ = some (.int .i64 p)) (go_keep) (first
        | (go_at_call 190; (with_reducible refine (HOf.out _).mono ?_); rintro e W1 ⟨rfl, b1⟩; have q1 := (below_of_drewN w0 1).trans b1; have HX1 := HX.out.past q1; have HK1 := HK.out.past q1; have y0 := HX1.cell (k := 0) rfl; have y1 := HX1.cell (k := 1) rfl; have y2 := HX1.cell (k := 2) rfl; have y3 := HX1.cell (k := 3) rfl; have y4 := HX1.cell (k := 4) rfl; have y5 := HX1.cell (k := 5) rfl; have y6 := HX1.cell (k := 6) rfl; have z0 := HK1.cell (k := 0) rfl; have z1 := HK1.cell (k := 1) rfl))
      all_goals go_wp2
      all_goals go_ret
      all_goals exact ⟨by simp [*], b0.trans (q1.mono b0.size)⟩
    · have f2 : (p == page) = false := beq_eq_false_iff_ne.2 e2
      have f2' : decide (p = page) = false := decide_eq_false e2
      go_region_held3 (fun w' => w'.cell? ⟨xb, 0, none⟩ = some (.int .i64 a) ∧ w'.cell? ⟨xb, 1, none⟩ = some (.int .i64 p) ∧ w'.cell? ⟨xb, 2, none⟩ = some (.int .i64 f) ∧ w'.cell? ⟨xb, 3, none⟩ = some (.bool rw') ∧ w'.cell? ⟨xb, 4, none⟩ = some (.bool ru) ∧ w'.cell? ⟨xb, 5, none⟩ = some (.bool rx) ∧ w'.cell? ⟨xb, 6, none⟩ = some (.bool d) ∧ w'.cell? ⟨kb, 0, none⟩ = some (.int .i64 a) ∧ w'.cell? ⟨kb, 1, none⟩ = some (.int .i64 page)) (go_keep) (first
        | (go_at_call 190; (with_reducible refine (HOf.out _).mono ?_); rintro e W1 ⟨rfl, b1⟩; have q1 := (below_of_drewN w0 1).trans b1; have HX1 := HX.out.past q1; have HK1 := HK.out.past q1; have y0 := HX1.cell (k := 0) rfl; have y1 := HX1.cell (k := 1) rfl; have y2 := HX1.cell (k := 2) rfl; have y3 := HX1.cell (k := 3) rfl; have y4 := HX1.cell (k := 4) rfl; have y5 := HX1.cell (k := 5) rfl; have y6 := HX1.cell (k := 6) rfl; have z0 := HK1.cell (k := 0) rfl; have z1 := HK1.cell (k := 1) rfl))
      all_goals go_wp2
      all_goals go_ret
      all_goals exact ⟨by simp [*], b0.trans (q1.mono b0.size)⟩
  · have f1 : (a == asid) = false := beq_eq_false_iff_ne.2 e1
    have f1' : decide (a = asid) = false := decide_eq_false e1
    go_region_held3 (fun w' => w'.cell? ⟨xb, 0, none⟩ = some (.int .i64 a) ∧ w'.cell? ⟨xb, 1, none⟩ = some (.int .i64 p) ∧ w'.cell? ⟨xb, 2, none⟩ = some (.int .i64 f) ∧ w'.cell? ⟨xb, 3, none⟩ = some (.bool rw') ∧ w'.cell? ⟨xb, 4, none⟩ = some (.bool ru) ∧ w'.cell? ⟨xb, 5, none⟩ = some (.bool rx) ∧ w'.cell? ⟨xb, 6, none⟩ = some (.bool d) ∧ w'.cell? ⟨kb, 0, none⟩ = some (.int .i64 asid) ∧ w'.cell? ⟨kb, 1, none⟩ = some (.int .i64 page)) (go_keep) (first
      | (go_at_call 190; (with_reducible refine (HOf.out _).mono ?_); rintro e W1 ⟨rfl, b1⟩; have q1 := (below_of_drewN w0 1).trans b1; have HX1 := HX.out.past q1; have HK1 := HK.out.past q1; have y0 := HX1.cell (k := 0) rfl; have y1 := HX1.cell (k := 1) rfl; have y2 := HX1.cell (k := 2) rfl; have y3 := HX1.cell (k := 3) rfl; have y4 := HX1.cell (k := 4) rfl; have y5 := HX1.cell (k := 5) rfl; have y6 := HX1.cell (k := 6) rfl; have z0 := HK1.cell (k := 0) rfl; have z1 := HK1.cell (k := 1) rfl))
    all_goals go_wp2
    all_goals go_ret
    all_goals exact ⟨by simp [*], b0.trans (q1.mono b0.size)⟩
end Go.Proofs.YtglohconhbcchaaGreatDoor

namespace Go.Proofs.YtglohconhbcchaaGreatDoor
open Go.RowKit Go.Shelf

/-- A TLB at tp of so many: its hits l in the slice v. -/
structure TS (w : World) (tp : Nat) (most : Nat) (v : Value) (l : List Hit) : Prop where
  hdr : Blk w tp 117 [.int .i64 (most : Int), v]
  row : HRow w v l
theorem TS.past {w w' : World} {tp most : Nat} {v : Value} {l : List Hit} (h : TS w tp most v l) (hb : Below w.heap.size w w') : TS w' tp most v l := ⟨h.hdr.past hb, h.row.past hb⟩
theorem own_one {w : World} {v : Value} {l : List Hit} (h : HRow w v l) : v.oneCell' = true := by
  rcases h.view with ⟨rfl, _⟩ | ⟨g, cap, rest, rfl, _⟩ <;> rfl
/-- what may have turned: the TLB, its row -/
def TSet (tp : Nat) (v : Value) (k : Nat) : Prop := k = tp ∨ v.ownBlock = some k
/-- the row of a TLB behind a call: the old one, or a new block -/
def OwnN (w : World) (v v' : Value) : Prop := v'.ownBlock = v.ownBlock ∨ ∀ k, v'.ownBlock = some k → w.heap.size ≤ k
theorem OwnN.refl (w : World) (v : Value) : OwnN w v v := .inl rfl
theorem OwnN.trans {w w' : World} {a b c : Value} (h : OwnN w a b) (h' : OwnN w' b c) (hs : w.heap.size ≤ w'.heap.size) : OwnN w a c := by
  rcases h' with h' | h'
  · rcases h with h | h
    · exact .inl (h'.trans h)
    · exact .inr fun k hk => h k (by rw [← h']; exact hk)
  · exact .inr fun k hk => Nat.le_trans hs (h' k hk)

theorem hit_set7 {W w0 : World} {b B0 : Nat} {T : TypeId} {x0 x1 x2 x3 x4 x5 x6 : Value} (v0 v1 v2 v3 v4 v5 v6 : Value) (h : Blk W b T [x0, x1, x2, x3, x4, x5, x6]) (hB : Below B0 w0 W) (hb : B0 ≤ b) :
    Blk (((((((W.setCell ⟨b, 0, none⟩ v0).setCell ⟨b, 1, none⟩ v1).setCell ⟨b, 2, none⟩ v2).setCell ⟨b, 3, none⟩ v3).setCell ⟨b, 4, none⟩ v4).setCell ⟨b, 5, none⟩ v5).setCell ⟨b, 6, none⟩ v6) b T [v0, v1, v2, v3, v4, v5, v6] ∧
    Below B0 w0 (((((((W.setCell ⟨b, 0, none⟩ v0).setCell ⟨b, 1, none⟩ v1).setCell ⟨b, 2, none⟩ v2).setCell ⟨b, 3, none⟩ v3).setCell ⟨b, 4, none⟩ v4).setCell ⟨b, 5, none⟩ v5).setCell ⟨b, 6, none⟩ v6) :=
  ⟨((((((h.set 0 v0).set 1 v1).set 2 v2).set 3 v3).set 4 v4).set 5 v5).set 6 v6,
   ((((((hB.setCell (p := ⟨b, 0, none⟩) hb v0).setCell (p := ⟨b, 1, none⟩) hb v1).setCell (p := ⟨b, 2, none⟩) hb v2).setCell (p := ⟨b, 3, none⟩) hb v3).setCell (p := ⟨b, 4, none⟩) hb v4).setCell (p := ⟨b, 5, none⟩) hb v5).setCell (p := ⟨b, 6, none⟩) hb v6⟩

theorem tlbNew_any (w : World) : Calls Tryz.prog 14 #[.int .i64 512] w
    fun e w' => e = .returned (.pointer (some ⟨w.heap.size, 0, none⟩)) ∧ w' = w.alloc (.cells #[.int .i64 512, .slice none 0 0] 117) := by
  go_enter Tryz.func14, Tryz.ntmps14
  go_wp2
  go_ret
  exact ⟨rfl, rfl⟩

set_option maxRecDepth 100000 in
theorem at_any (w : World) (tp most : Nat) (v : Value) (l : List Hit) (asid page : Int) (T : TS w tp most v l) (hsm : l.length ≤ 1000000) :
    Calls Tryz.prog 142 #[.pointer (some ⟨tp, 0, none⟩), .agg #[.int .i64 asid, .int .i64 page]] w
      fun e w' => e = .returned (.int .i64 (fidx (ofKey asid page) l)) ∧ Below w.heap.size w w' := by
  obtain ⟨w0, hw0⟩ : ∃ w0, w.alloc (.cells #[.int .i64 asid, .int .i64 page] 253) = w0 := ⟨_, rfl⟩
  have b0 : Below w.heap.size w w0 := by rw [← hw0]; exact bal _ _
  have hk : Blk w0 w.heap.size 253 [.int .i64 asid, .int .i64 page] := by rw [← hw0]; exact Blk.new w _ _
  have T0 := T.past b0
  have hcon := hindex_any w0 v l 189 #[.pointer (some ⟨w.heap.size, 0, none⟩)] (ofKey asid page) T0.row hsm (enters_of Tryz.func189 (by kernel_rfl) rfl)
    (fun x _ W hW => atp_any W w.heap.size x asid page (hk.past hW))
  have c1 := T0.hdr.cell (k := 1) rfl
  have lt := T.hdr.lt
  have c1' := T.hdr.cell (k := 1) rfl
  obtain ⟨res, hres⟩ : ∃ res, fidx (ofKey asid page) l = res := ⟨_, rfl⟩
  rw [hres] at hcon ⊢
  have HC := Lib.hid hcon
  have HW := Lib.hid hw0
  clear hcon hw0 hk T0 T hres c1
  go_enter Tryz.func142, Tryz.ntmps142
  go_wp2_with (go_at_call 188; rw [HW.out]; (with_reducible refine HC.out.mono ?_); rintro e w' ⟨rfl, hB⟩)
  go_ret
  exact ⟨rfl, b0.trans (hB.mono b0.size)⟩

/-- what is known of a space and a page -/
def tget (l : List Hit) (asid page : Int) : Option Hit := l.find? (ofKey asid page)
def tdrop (l : List Hit) (asid page : Int) : List Hit := l.eraseP (ofKey asid page)
def tput (most : Nat) (l : List Hit) (h : Hit) : List Hit := (if (tdrop l h.asid h.page).length = most then (tdrop l h.asid h.page).drop 1 else tdrop l h.asid h.page) ++ [h]

theorem TS.store {w : World} {tp most : Nat} {v v' : Value} {l : List Hit} (hb : Blk w tp 117 [.int .i64 (most : Int), v]) (hr : HRow w v' l) : TS (w.setCell ⟨tp, 1, none⟩ v') tp most v' l :=
  ⟨hb.set 1 v', hr.other hb (by decide) 1 v'⟩
set_option maxRecDepth 100000 in
set_option maxHeartbeats 1000000 in
theorem tlbDrop_any (w : World) (tp most : Nat) (v : Value) (l : List Hit) (asid page : Int) (T : TS w tp most v l) (hsm : l.length ≤ 1000000) :
    Calls Tryz.prog 90 #[.pointer (some ⟨tp, 0, none⟩), .int .i64 asid, .int .i64 page] w
      fun e w' => e = .returned (.bool (tget l asid page).isSome) ∧ ∃ v', TS w' tp most v' (tdrop l asid page) ∧ v'.ownBlock = v.ownBlock ∧ Kept w.heap.size (TSet tp v) w w' := by
  have hat := at_any w tp most v l asid page T hsm
  rcases fidx_forms (ofKey asid page) l with ⟨_, hi, hf, he⟩ | ⟨k, hk, hi, hf, he, _⟩
  · have ho : (tget l asid page).isSome = false := by unfold tget; rw [hf]; rfl
    have hd : tdrop l asid page = l := he
    rw [ho, hd]
    rw [hi] at hat
    have HA := Lib.hid hat
    have HT := Lib.hid T
    clear hat T hi hf he ho hd
    go_enter Tryz.func90, Tryz.ntmps90
    go_wp2_with (go_at_call 142; (with_reducible refine HA.out.mono ?_); rintro e W1 ⟨rfl, b1⟩)
    go_ret
    exact ⟨rfl, v, HT.out.past b1, rfl, Kept.of_below b1⟩
  · have ho : (tget l asid page).isSome = true := by unfold tget; rw [hf]; rfl
    have hd : tdrop l asid page = l.eraseIdx k := he
    rw [ho, hd]
    rw [hi] at hat
    rcases T.row.view with ⟨_, h⟩ | ⟨g, cap, rest, rfl, hb, hc1, hc2, hc3⟩
    · rw [h] at hk; simp at hk
    have hdel : ∀ W, Below w.heap.size w W → Calls Tryz.prog 91 #[.slice (some ⟨g, 0, none⟩) l.length cap, .int .i64 (k : Int), .int .i64 ((k : Int) + 1)] W
        fun e w' => e = .returned (.slice (some ⟨g, 0, none⟩) (l.eraseIdx k).length cap) ∧ HRow w' (.slice (some ⟨g, 0, none⟩) (l.eraseIdx k).length cap) (l.eraseIdx k) ∧ Kept W.heap.size (fun k => k = g) W w' :=
      fun W hW => hdel_any W g cap k (k + 1) rfl l rest (hb.past hW) hc1 hc2 hc3 hk
    obtain ⟨n, hn⟩ : ∃ n, l.length = n := ⟨_, rfl⟩
    have hgt : g ≠ tp := hb.ne T.hdr (by decide)
    rw [hn] at hdel hk hsm
    have HA := Lib.hid hat
    have HT := Lib.hid T
    have HD := Lib.hid hdel
    rw [hn] at HT
    have hs1 : IntKind.i64.wrap ((k : Int) + 1) = (k : Int) + 1 := by rw [IntKind.wrap_i64]; omega
    clear hat T hi hf he ho hd hb hc1 hc2 hc3 hdel hn
    go_enter Tryz.func90, Tryz.ntmps90
    go_wp2_with (first
      | (go_at_call 142; (with_reducible refine HA.out.mono ?_); rintro e W1 ⟨rfl, b1⟩; have T1 := HT.out.past b1; have t1 := T1.hdr.cell (k := 1) rfl)
      | (go_at_call 91; (with_reducible refine (HD.out _ b1).mono ?_); rintro e W2 ⟨rfl, R2, K2⟩; have H2 := T1.hdr.kept K2 T1.hdr.lt (fun e => hgt e.symm); have t2 := H2.cell (k := 1) rfl; have tf := fun j => H2.free j; have HR2 := Lib.hid R2; have HK2 := Lib.hid K2; clear R2 K2))
    go_ret
    refine ⟨rfl, _, TS.store H2 HR2.out, rfl, ?_⟩
    have hs := b1.size
    exact ((Kept.of_below b1).trans (HK2.out.mono hs (fun q _ e => .inr (by subst e; rfl)))).setCell (p := ⟨tp, 1, none⟩) (.inl (.inl rfl)) _

theorem tlbAll_any (w : World) (tp most : Nat) (v : Value) (l : List Hit) (T : TS w tp most v l) :
    Calls Tryz.prog 110 #[.pointer (some ⟨tp, 0, none⟩)] w
      fun e w' => (∃ r, e = .returned r) ∧ TS w' tp most (.slice none 0 0) [] ∧ Kept w.heap.size (TSet tp v) w w' := by
  have t1 := T.hdr.cell (k := 1) rfl
  have tf := fun j => T.hdr.free j
  have HT := Lib.hid T
  clear T
  go_enter Tryz.func110, Tryz.ntmps110
  go_wp2
  refine bodyPost_end (results_none rfl _ _ _) rfl ⟨⟨_, rfl⟩, TS.store HT.out.hdr (HRow.nil _), (Kept.refl _ _ _).setCell (p := ⟨tp, 1, none⟩) (.inl (.inl rfl)) _⟩
theorem tlbList_any (w : World) (tp most : Nat) (v : Value) (l : List Hit) (T : TS w tp most v l) (hsm : l.length ≤ 1000000) :
    Calls Tryz.prog 43 #[.pointer (some ⟨tp, 0, none⟩)] w fun e w' => (∃ v', e = .returned v' ∧ HRow w' v' l) ∧ Below w.heap.size w w' := by
  have hc := hclone_any w v l T.row hsm
  have t1 := T.hdr.cell (k := 1) rfl
  have HC := Lib.hid hc
  clear T hc
  go_enter Tryz.func43, Tryz.ntmps43
  go_wp2_with (go_at_call 101; (with_reducible refine HC.out.mono ?_); rintro e W1 ⟨⟨v', rfl, h1⟩, b1⟩)
  go_ret
  exact ⟨⟨v', rfl, h1⟩, b1⟩
end Go.Proofs.YtglohconhbcchaaGreatDoor

namespace Go.Proofs.YtglohconhbcchaaGreatDoor
open Go.RowKit Go.Shelf

theorem Kept.grown {B : Nat} {S : Nat → Prop} {a w w' : World} {row : Option Nat} (h : Kept B S a w) (hB : B ≤ w.heap.size) (hg : w.grownBy w' row) (hr : ∀ r, row = some r → S r ∨ B ≤ r) : Kept B S a w' :=
  ⟨hg.os.trans h.os, hg.tape.trans h.tape, hg.output.trans h.output, Nat.le_trans h.size hg.size, fun k hk hs =>
    (hg.block k (Nat.lt_of_lt_of_le hk hB) (fun e => (hr k e.symm).elim hs (fun h' => by omega))).trans (h.block k hk hs)⟩
set_option maxRecDepth 100000 in
set_option maxHeartbeats 4000000 in
theorem tlbPut_any (w : World) (tp most : Nat) (v : Value) (l : List Hit) (x : Hit) (T : TS w tp most v l) (hsm : l.length ≤ 1000000) (hm1 : 1 ≤ most) (hm2 : most ≤ 1000000) :
    Calls Tryz.prog 36 #[.pointer (some ⟨tp, 0, none⟩), .agg #[.int .i64 x.asid, .int .i64 x.page, .int .i64 x.frame, .bool x.r.w, .bool x.r.u, .bool x.r.x, .bool x.dirty]] w
      fun e w' => (∃ r, e = .returned r) ∧ ∃ v', TS w' tp most v' (tput most l x) ∧ OwnN w v v' ∧ Kept w.heap.size (TSet tp v) w w' := by
  obtain ⟨i0, hi, hz0, hz1, hz2⟩ := info_parts info_hit
  obtain ⟨xa, xp, xf, ⟨xw, xu, xx⟩, xd⟩ := x
  obtain ⟨res, hres⟩ : ∃ r, tput most l ⟨xa, xp, xf, ⟨xw, xu, xx⟩, xd⟩ = r := ⟨_, rfl⟩
  rw [hres]
  dsimp only
  have b0 := bal w (.cells #[.int .i64 xa, .int .i64 xp, .int .i64 xf, .bool xw, .bool xu, .bool xx, .bool xd] 101)
  have hx := Blk.new w 101 [.int .i64 xa, .int .i64 xp, .int .i64 xf, .bool xw, .bool xu, .bool xx, .bool xd]
  have T0 := T.past b0
  obtain ⟨w0, hw0⟩ : ∃ w0, w.alloc (.cells #[.int .i64 xa, .int .i64 xp, .int .i64 xf, .bool xw, .bool xu, .bool xx, .bool xd] 101) = w0 := ⟨_, rfl⟩
  rw [show (w.alloc (.cells [Value.int .i64 xa, .int .i64 xp, .int .i64 xf, .bool xw, .bool xu, .bool xx, .bool xd].toArray 101)) = w0 from hw0] at hx
  rw [hw0] at b0 T0
  have hxt : ¬ TSet tp v w.heap.size := by
    rintro (h | h)
    · have := T.hdr.lt; omega
    · have := (T.row.lt _ h).2; omega
  have hown0 : ∀ k, v.ownBlock = some k → k < w.heap.size := fun k h => (T.row.lt _ h).2
  have HOwn := Lib.hid hown0
  clear hown0
  have hdrop := tlbDrop_any w0 tp most v l xa xp T0 hsm
  have hdl : (tdrop l xa xp).length ≤ l.length := by unfold tdrop; exact List.length_eraseP_le
  have hput : tput most l ⟨xa, xp, xf, ⟨xw, xu, xx⟩, xd⟩ = (if (tdrop l xa xp).length = most then (tdrop l xa xp).drop 1 else tdrop l xa xp) ++ [⟨xa, xp, xf, ⟨xw, xu, xx⟩, xd⟩] := rfl
  obtain ⟨l1, hl1⟩ : ∃ l1, tdrop l xa xp = l1 := ⟨_, rfl⟩
  rw [hl1] at hdrop hdl hput
  obtain ⟨isk, hisk⟩ : ∃ b, (tget l xa xp).isSome = b := ⟨_, rfl⟩
  rw [hisk] at hdrop
  have hbx : ∀ W1, Kept w0.heap.size (TSet tp v) w0 W1 → Blk W1 w.heap.size 101 [.int .i64 xa, .int .i64 xp, .int .i64 xf, .bool xw, .bool xu, .bool xx, .bool xd] := fun W1 hK => hx.kept hK hx.lt hxt
  have hKw : ∀ W1, Kept w0.heap.size (TSet tp v) w0 W1 → Kept w.heap.size (TSet tp v) w W1 := fun W1 hK => (Kept.of_below b0).trans (hK.mono b0.size (fun _ _ h => h))
  have hD := Lib.hid hdrop
  have HBX := Lib.hid hbx
  have HKW := Lib.hid hKw
  have HW := Lib.hid hw0
  have HR := Lib.hid (hres.symm.trans hput)
  have H1 := Lib.hid hi
  have HZ0 := Lib.hid hz0
  have HZ1 := Lib.hid hz1
  have HZ2 := Lib.hid hz2
  have HB0 := Lib.hid b0
  have hx0 := hx.cell (k := 0) rfl
  have hx1 := hx.cell (k := 1) rfl
  have hlx := hx.lt
  have HX0 := Lib.hid hx0
  have HX1 := Lib.hid hx1
  clear hdrop hbx hKw hw0 hres hput hi hz0 hz1 hz2 b0 hx T0 T hxt hl1 hisk hx0 hx1 hlx
  go_enter Tryz.func36, Tryz.ntmps36
  go_wp2_with (go_at_call 90; rw [HW.out]; (with_reducible refine hD.out.mono ?_); rintro e W1 ⟨rfl, v1, T1, hv1, K1⟩; have XW := HBX.out W1 K1; have HK1 := Lib.hid (HKW.out W1 K1); have HV1 := Lib.hid hv1; clear K1 hv1)
  have HXW := Lib.hid XW
  clear XW
  have p0 := T1.hdr.cell (k := 0) rfl
  have p1 := T1.hdr.cell (k := 1) rfl
  rcases T1.row.view with ⟨rfl, rfl⟩ | ⟨g1, cap1, rest1, rfl, hb1, hc1, hc2, hc3⟩
  · have hne : ((0 : Int) == (most : Int)) = false := beq_eq_false_iff_ne.2 (by omega)
    have hm0 : ¬ ([] : List Hit).length = most := by simp; omega
    go_quiet (fail)
    go_wp2_with fail
    have TW := T1.past (below_of_drewN W1 nq)
    have XW := HXW.out.past (below_of_drewN W1 nq)
    have HKq := HK1.out.drewN nq
    obtain ⟨Wq, hWq⟩ : ∃ W, W1.drewN nq = W := ⟨_, rfl⟩
    rw [hWq] at TW XW HKq
    rw [hWq]
    have HKq := Lib.hid HKq
    clear T1 HXW hWq p0 p1
    have HXq := XW.cell (k := 0) rfl
    have x1 := XW.cell (k := 1) rfl
    have x2 := XW.cell (k := 2) rfl
    have x3 := XW.cell (k := 3) rfl
    have x4 := XW.cell (k := 4) rfl
    have x5 := XW.cell (k := 5) rfl
    have x6 := XW.cell (k := 6) rfl
    have p1 := TW.hdr.cell (k := 1) rfl
    have pf := fun j => TW.hdr.free j
    have lt0 := TW.hdr.lt
    have lx0 := XW.lt
    have hown : (Wq.drew.alloc (.cells #[.int .i64 xa, .int .i64 xp, .int .i64 xf, .bool xw, .bool xu, .bool xx, .bool xd] 101)).ownsRow 0 101 7 (.slice none 0 0) (([] : List Hit)).length (hitsC (([] : List Hit))) :=
      TW.row.past ((Below.refl _ Wq).drew.alloc (Nat.le_refl _) _)
    have hnews := World.news_of_block (cs := #[.int .i64 xa, .int .i64 xp, .int .i64 xf, .bool xw, .bool xu, .bool xx, .bool xd]) (t := 101) (fr := (0, 0)) (heap_alloc_new Wq.drew (.cells #[.int .i64 xa, .int .i64 xp, .int .i64 xf, .bool xw, .bool xu, .bool xx, .bool xd] 101))
    have hone : ∀ u ∈ [Value.int .i64 xa, .int .i64 xp, .int .i64 xf, .bool xw, .bool xu, .bool xx, .bool xd], u.oneCell' = true := hitsC_one [⟨xa, xp, xf, ⟨xw, xu, xx⟩, xd⟩]
    have hTd := TW.hdr.drew.alloc (.cells #[.int .i64 xa, .int .i64 xp, .int .i64 xf, .bool xw, .bool xu, .bool xx, .bool xd] 101)
    obtain ⟨n, hn⟩ : ∃ n, (([] : List Hit)).length = n := ⟨_, rfl⟩
    have hnb : n ≤ 1000000 := by omega
    have hlv : (([] : List Hit)).length = n := hn
    rw [hn] at hown
    have HOw := Lib.hid hown
    have HNw := Lib.hid hnews
    have HOn := Lib.hid hone
    have HTd := Lib.hid hTd
    have HTW := Lib.hid TW
    have HLv := Lib.hid hlv
    clear hown hnews hone hTd TW XW hn hlv
    go_region_law (refine step_append_lies _ rfl (.tmp 32) (.tmp 34) 104 rfl 0 101 i0 zeroHit 7 32 Tryz.underlying104 H1.out HZ0.out HZ1.out HZ2.out rfl (by decide) _ n _ (by simp [Act.eval]) HOw.out ⟨Wq.heap.size, 0, none⟩ 1 1 [Value.int .i64 xa, .int .i64 xp, .int .i64 xf, .bool xw, .bool xu, .bool xx, .bool xd] (by simp [Act.eval]) rfl HNw.out HOn.out (by omega) (by unfold maxLen; omega) (by omega) (Nat.zero_le _) _ rfl ?_; intro g cap w3 hown3 hgrow3 hat3 hlt3; have hT3 := HTd.out.grownRow HOw.out (by decide) hgrow3; have y1 := hT3.cell (k := 1) rfl; have yf := fun j => hT3.free j; have HO3 := Lib.hid hown3; have HG3 := Lib.hid hgrow3; have HA3 := Lib.hid hat3; have HT3 := Lib.hid hT3; clear hown3 hgrow3 hat3 hT3)
    all_goals go_wp2
    all_goals
      refine bodyPost_end (results_none rfl _ _ _) rfl ⟨⟨_, rfl⟩, _, TS.store HT3.out ?_, ?_, ?_⟩
      · have hr : res = (([] : List Hit)) ++ [⟨xa, xp, xf, ⟨xw, xu, xx⟩, xd⟩] := by rw [HR.out]; rw [if_neg hm0]
        rw [hr]
        have h := HO3.out
        unfold HRow
        rw [hitsC_append, List.length_append, HLv.out]
        exact h
      · rcases HA3.out with h | h
        · exact .inl ((show (Value.slice (some ⟨g, 0, none⟩) (n + 1) cap).ownBlock = _ from h.symm).trans HV1.out)
        · refine .inr fun k hk => ?_
          have hk' : g = k := Option.some.inj hk
          have := HKq.out.size
          rw [← hk', h]; simp; omega
      · refine (((((HKq.out.drewN 1).alloc (by have := HKq.out.size; simpa using this) _).grown (by have := HKq.out.size; simp; omega) HG3.out (fun r e => .inl (.inr (HV1.out.symm.trans e)))).setCell (p := ⟨tp, 1, none⟩) (.inl (.inl rfl)) _))
  · by_cases hlm : l1.length = most
    · obtain ⟨n1, hn1⟩ : ∃ n, l1.length = n := ⟨_, rfl⟩
      have hn0 : 0 < l1.length := by omega
      have he : l1.eraseIdx 0 = l1.drop 1 := by cases l1 <;> rfl
      have hdel : ∀ W, Below W1.heap.size W1 W → Calls Tryz.prog 91 #[.slice (some ⟨g1, 0, none⟩) l1.length cap1, .int .i64 0, .int .i64 1] W
          fun e w' => e = .returned (.slice (some ⟨g1, 0, none⟩) (l1.eraseIdx 0).length cap1) ∧ HRow w' (.slice (some ⟨g1, 0, none⟩) (l1.eraseIdx 0).length cap1) (l1.eraseIdx 0) ∧ Kept W.heap.size (fun k => k = g1) W w' :=
        fun W hW => hdel_any W g1 cap1 0 1 rfl l1 rest1 (hb1.past hW) hc1 hc2 hc3 hn0
      obtain ⟨l2, hl2⟩ : ∃ l2, l1.drop 1 = l2 := ⟨_, rfl⟩
      rw [he, hl2] at hdel
      have hl2b : l2.length ≤ 1000000 := by rw [← hl2, List.length_drop]; omega
      obtain ⟨n2, hn2⟩ : ∃ n, l2.length = n := ⟨_, rfl⟩
      rw [hn2, hn1] at hdel
      have hgt : tp ≠ g1 := T1.hdr.ne hb1 (by decide)
      have hg1 : g1 < w.heap.size := HOwn.out g1 HV1.out.symm
      have hxg : ¬ w.heap.size = g1 := by omega
      have hxt : w.heap.size ≠ tp := HXW.out.ne T1.hdr (by decide)
      have heq : ((n1 : Int) == (most : Int)) = true := by rw [beq_iff_eq]; omega
      have HLm := Lib.hid hlm
      have HL2 := Lib.hid hl2
      have HDl := Lib.hid hdel
      have hT1 := T1
      rw [hn1] at hT1 p1
      have HT1 := Lib.hid hT1
      have HHd := Lib.hid T1.hdr
      rw [hn1] at HHd
      have hv2 : (Value.slice (some ⟨g1, 0, none⟩) n2 cap1).ownBlock = v.ownBlock := HV1.out
      have HV2 := Lib.hid hv2
      have hlx := HXW.out.lt
      have HLx := Lib.hid hlx
      clear T1 hT1 hb1 hc3 hc1 hn1 hn0 he hdel hlm hl2 hg1 hlx hv2
      go_quiet (fail)
      go_wp2_with (go_at_call 91; (with_reducible refine (HDl.out _ (below_of_drewN W1 nq)).mono ?_); rintro e W2 ⟨rfl, R2, K2⟩; have H2 := (HHd.out.past (below_of_drewN W1 nq)).kept K2 (HHd.out.past (below_of_drewN W1 nq)).lt hgt; have t2 := H2.cell (k := 1) rfl; have tf := fun j => H2.free j; have HR2 := Lib.hid R2; have HK2 := Lib.hid K2; have HH2 := Lib.hid H2; clear R2 K2 H2)
      have hr2 := HR2.out
      have hk2 := HK2.out
      have TW : TS (W2.setCell ⟨tp, 1, none⟩ (.slice (some ⟨g1, 0, none⟩) n2 cap1)) tp most (.slice (some ⟨g1, 0, none⟩) n2 cap1) l2 := TS.store HH2.out hr2
      have XW := ((HXW.out.past (below_of_drewN W1 nq)).kept hk2 HLx.out hxg).other (a := ⟨tp, 1, none⟩) hxt (.slice (some ⟨g1, 0, none⟩) n2 cap1)
      have HKq := ((HK1.out.drewN nq).trans (hk2.mono (B' := w.heap.size) (S' := TSet tp v) (HK1.out.size) (fun q _ e => .inr (by subst e; exact HV2.out.symm)))).setCell (p := ⟨tp, 1, none⟩) (.inl (.inl rfl)) (.slice (some ⟨g1, 0, none⟩) n2 cap1)
      obtain ⟨Wq, hWq⟩ : ∃ W, W2.setCell ⟨tp, 1, none⟩ (.slice (some ⟨g1, 0, none⟩) n2 cap1) = W := ⟨_, rfl⟩
      rw [hWq] at TW XW HKq
      rw [hWq]
      have HKq := Lib.hid HKq
      clear HXW hWq p0 p1 t2 tf hr2 hk2 hn2
      have HXq := XW.cell (k := 0) rfl
      have x1 := XW.cell (k := 1) rfl
      have x2 := XW.cell (k := 2) rfl
      have x3 := XW.cell (k := 3) rfl
      have x4 := XW.cell (k := 4) rfl
      have x5 := XW.cell (k := 5) rfl
      have x6 := XW.cell (k := 6) rfl
      have p1 := TW.hdr.cell (k := 1) rfl
      have pf := fun j => TW.hdr.free j
      have lt0 := TW.hdr.lt
      have lx0 := XW.lt
      have hown : (Wq.drew.alloc (.cells #[.int .i64 xa, .int .i64 xp, .int .i64 xf, .bool xw, .bool xu, .bool xx, .bool xd] 101)).ownsRow 0 101 7 (.slice (some ⟨g1, 0, none⟩) n2 cap1) (l2).length (hitsC (l2)) :=
        TW.row.past ((Below.refl _ Wq).drew.alloc (Nat.le_refl _) _)
      have hnews := World.news_of_block (cs := #[.int .i64 xa, .int .i64 xp, .int .i64 xf, .bool xw, .bool xu, .bool xx, .bool xd]) (t := 101) (fr := (0, 0)) (heap_alloc_new Wq.drew (.cells #[.int .i64 xa, .int .i64 xp, .int .i64 xf, .bool xw, .bool xu, .bool xx, .bool xd] 101))
      have hone : ∀ u ∈ [Value.int .i64 xa, .int .i64 xp, .int .i64 xf, .bool xw, .bool xu, .bool xx, .bool xd], u.oneCell' = true := hitsC_one [⟨xa, xp, xf, ⟨xw, xu, xx⟩, xd⟩]
      have hTd := TW.hdr.drew.alloc (.cells #[.int .i64 xa, .int .i64 xp, .int .i64 xf, .bool xw, .bool xu, .bool xx, .bool xd] 101)
      obtain ⟨n, hn⟩ : ∃ n, (l2).length = n := ⟨_, rfl⟩
      have hnb : n ≤ 1000000 := by omega
      have hlv : (l2).length = n := hn
      rw [hn] at hown
      have HOw := Lib.hid hown
      have HNw := Lib.hid hnews
      have HOn := Lib.hid hone
      have HTd := Lib.hid hTd
      have HTW := Lib.hid TW
      have HLv := Lib.hid hlv
      clear hown hnews hone hTd TW XW hn hlv
      go_region_law (refine step_append_lies _ rfl (.tmp 32) (.tmp 34) 104 rfl 0 101 i0 zeroHit 7 32 Tryz.underlying104 H1.out HZ0.out HZ1.out HZ2.out rfl (by decide) _ n _ (by simp [Act.eval]) HOw.out ⟨Wq.heap.size, 0, none⟩ 1 1 [Value.int .i64 xa, .int .i64 xp, .int .i64 xf, .bool xw, .bool xu, .bool xx, .bool xd] (by simp [Act.eval]) rfl HNw.out HOn.out (by omega) (by unfold maxLen; omega) (by omega) (Nat.zero_le _) _ rfl ?_; intro g cap w3 hown3 hgrow3 hat3 hlt3; have hT3 := HTd.out.grownRow HOw.out (by decide) hgrow3; have y1 := hT3.cell (k := 1) rfl; have yf := fun j => hT3.free j; have HO3 := Lib.hid hown3; have HG3 := Lib.hid hgrow3; have HA3 := Lib.hid hat3; have HT3 := Lib.hid hT3; clear hown3 hgrow3 hat3 hT3)
      all_goals go_wp2
      all_goals
        refine bodyPost_end (results_none rfl _ _ _) rfl ⟨⟨_, rfl⟩, _, TS.store HT3.out ?_, ?_, ?_⟩
        · have hr : res = (l2) ++ [⟨xa, xp, xf, ⟨xw, xu, xx⟩, xd⟩] := by rw [HR.out]; rw [if_pos HLm.out, HL2.out]
          rw [hr]
          have h := HO3.out
          unfold HRow
          rw [hitsC_append, List.length_append, HLv.out]
          exact h
        · rcases HA3.out with h | h
          · exact .inl ((show (Value.slice (some ⟨g, 0, none⟩) (n + 1) cap).ownBlock = _ from h.symm).trans HV2.out)
          · refine .inr fun k hk => ?_
            have hk' : g = k := Option.some.inj hk
            have := HKq.out.size
            rw [← hk', h]; simp; omega
        · refine (((((HKq.out.drewN 1).alloc (by have := HKq.out.size; simpa using this) _).grown (by have := HKq.out.size; simp; omega) HG3.out (fun r e => .inl (.inr (HV2.out.symm.trans e)))).setCell (p := ⟨tp, 1, none⟩) (.inl (.inl rfl)) _))
    · obtain ⟨n1, hn1⟩ : ∃ n, l1.length = n := ⟨_, rfl⟩
      have hlm' := Lib.hid hlm
      rw [hn1] at hlm p1
      have hne : ((n1 : Int) == (most : Int)) = false := beq_eq_false_iff_ne.2 (by omega)
      rw [hn1] at HV1
      have HT1 := Lib.hid T1
      rw [hn1] at HT1
      have HN1 := Lib.hid hn1
      clear T1 hb1 hc3 hc1 hn1
      go_quiet (fail)
      go_wp2_with fail
      have TW := HT1.out.past (below_of_drewN W1 nq)
      have XW := HXW.out.past (below_of_drewN W1 nq)
      have HKq := HK1.out.drewN nq
      obtain ⟨Wq, hWq⟩ : ∃ W, W1.drewN nq = W := ⟨_, rfl⟩
      rw [hWq] at TW XW HKq
      rw [hWq]
      have HKq := Lib.hid HKq
      clear HXW hWq p0 p1
      have HXq := XW.cell (k := 0) rfl
      have x1 := XW.cell (k := 1) rfl
      have x2 := XW.cell (k := 2) rfl
      have x3 := XW.cell (k := 3) rfl
      have x4 := XW.cell (k := 4) rfl
      have x5 := XW.cell (k := 5) rfl
      have x6 := XW.cell (k := 6) rfl
      have p1 := TW.hdr.cell (k := 1) rfl
      have pf := fun j => TW.hdr.free j
      have lt0 := TW.hdr.lt
      have lx0 := XW.lt
      have hown : (Wq.drew.alloc (.cells #[.int .i64 xa, .int .i64 xp, .int .i64 xf, .bool xw, .bool xu, .bool xx, .bool xd] 101)).ownsRow 0 101 7 (.slice (some ⟨g1, 0, none⟩) n1 cap1) (l1).length (hitsC (l1)) :=
        TW.row.past ((Below.refl _ Wq).drew.alloc (Nat.le_refl _) _)
      have hnews := World.news_of_block (cs := #[.int .i64 xa, .int .i64 xp, .int .i64 xf, .bool xw, .bool xu, .bool xx, .bool xd]) (t := 101) (fr := (0, 0)) (heap_alloc_new Wq.drew (.cells #[.int .i64 xa, .int .i64 xp, .int .i64 xf, .bool xw, .bool xu, .bool xx, .bool xd] 101))
      have hone : ∀ u ∈ [Value.int .i64 xa, .int .i64 xp, .int .i64 xf, .bool xw, .bool xu, .bool xx, .bool xd], u.oneCell' = true := hitsC_one [⟨xa, xp, xf, ⟨xw, xu, xx⟩, xd⟩]
      have hTd := TW.hdr.drew.alloc (.cells #[.int .i64 xa, .int .i64 xp, .int .i64 xf, .bool xw, .bool xu, .bool xx, .bool xd] 101)
      obtain ⟨n, hn⟩ : ∃ n, (l1).length = n := ⟨_, rfl⟩
      have hnb : n ≤ 1000000 := by omega
      have hlv : (l1).length = n := hn
      rw [hn] at hown
      have HOw := Lib.hid hown
      have HNw := Lib.hid hnews
      have HOn := Lib.hid hone
      have HTd := Lib.hid hTd
      have HTW := Lib.hid TW
      have HLv := Lib.hid hlv
      clear hown hnews hone hTd TW XW hn hlv
      go_region_law (refine step_append_lies _ rfl (.tmp 32) (.tmp 34) 104 rfl 0 101 i0 zeroHit 7 32 Tryz.underlying104 H1.out HZ0.out HZ1.out HZ2.out rfl (by decide) _ n _ (by simp [Act.eval]) HOw.out ⟨Wq.heap.size, 0, none⟩ 1 1 [Value.int .i64 xa, .int .i64 xp, .int .i64 xf, .bool xw, .bool xu, .bool xx, .bool xd] (by simp [Act.eval]) rfl HNw.out HOn.out (by omega) (by unfold maxLen; omega) (by omega) (Nat.zero_le _) _ rfl ?_; intro g cap w3 hown3 hgrow3 hat3 hlt3; have hT3 := HTd.out.grownRow HOw.out (by decide) hgrow3; have y1 := hT3.cell (k := 1) rfl; have yf := fun j => hT3.free j; have HO3 := Lib.hid hown3; have HG3 := Lib.hid hgrow3; have HA3 := Lib.hid hat3; have HT3 := Lib.hid hT3; clear hown3 hgrow3 hat3 hT3)
      all_goals go_wp2
      all_goals
        refine bodyPost_end (results_none rfl _ _ _) rfl ⟨⟨_, rfl⟩, _, TS.store HT3.out ?_, ?_, ?_⟩
        · have hr : res = (l1) ++ [⟨xa, xp, xf, ⟨xw, xu, xx⟩, xd⟩] := by rw [HR.out]; rw [if_neg hlm'.out]
          rw [hr]
          have h := HO3.out
          unfold HRow
          rw [hitsC_append, List.length_append, HLv.out]
          exact h
        · rcases HA3.out with h | h
          · exact .inl ((show (Value.slice (some ⟨g, 0, none⟩) (n + 1) cap).ownBlock = _ from h.symm).trans HV1.out)
          · refine .inr fun k hk => ?_
            have hk' : g = k := Option.some.inj hk
            have := HKq.out.size
            rw [← hk', h]; simp; omega
        · refine (((((HKq.out.drewN 1).alloc (by have := HKq.out.size; simpa using this) _).grown (by have := HKq.out.size; simp; omega) HG3.out (fun r e => .inl (.inr (HV1.out.symm.trans e)))).setCell (p := ⟨tp, 1, none⟩) (.inl (.inl rfl)) _))
end Go.Proofs.YtglohconhbcchaaGreatDoor
