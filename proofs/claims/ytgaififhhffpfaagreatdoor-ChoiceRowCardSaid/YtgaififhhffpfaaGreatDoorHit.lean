/- Hits as they lie in memory; slices.IndexFunc, slices.Delete and slices.Clone at hits. -/
import Derived.Test.YtgaififhhffpfaaGreatDoorHead
import Derived.Test.YtgaififhhffpfaaGreatDoorRegIn
import Derived.Laws.StructEq
import Derived.Deep.RegionLaw
import Derived.Laws.IdiomCopy
import Derived.Lib.SliceRun
import Derived.Deep.AppendLies
namespace Go.Proofs.YtgaififhhffpfaaGreatDoor
open Go.RowKit Go.Shelf

structure Hit where
  asid : Int
  page : Int
  frame : Int
  r : Rt
  dirty : Bool
  deriving DecidableEq
def Hit.cells (h : Hit) : List Value := [.int .i64 h.asid, .int .i64 h.page, .int .i64 h.frame, .bool h.r.w, .bool h.r.u, .bool h.r.x, .bool h.dirty]
def hitsC (l : List Hit) : List Value := l.flatMap Hit.cells
def hit0 : Hit := ⟨0, 0, 0, ⟨false, false, false⟩, false⟩
theorem hitsC_len (l : List Hit) : (hitsC l).length = l.length * 7 := by
  induction l with
  | nil => rfl
  | cons a l ih => simp only [hitsC, List.flatMap_cons] at ih ⊢; simp only [List.length_append, List.length_cons, ih, Hit.cells, List.length_nil]; omega
theorem hitsC_append (l l' : List Hit) : hitsC (l ++ l') = hitsC l ++ hitsC l' := by simp [hitsC]
theorem hitsC_get (l : List Hit) (k j : Nat) (hk : k < l.length) (hj : j < 7) : (hitsC l)[k * 7 + j]? = (l.getD k hit0).cells[j]? := by
  induction l generalizing k with
  | nil => simp at hk
  | cons a l ih =>
    have hc : (hitsC (a :: l)) = a.cells ++ hitsC l := rfl
    have ha : a.cells.length = 7 := rfl
    cases k with
    | zero => rw [hc, List.getElem?_append_left (by omega)]; simp
    | succ k =>
      rw [hc, List.getElem?_append_right (by omega), show (k + 1) * 7 + j - a.cells.length = k * 7 + j by omega, ih k (by simpa using hk)]
      simp
theorem hitsC_one (l : List Hit) : ∀ u ∈ hitsC l, u.oneCell' = true := by
  intro u hu
  obtain ⟨h, _, hu⟩ := List.mem_flatMap.1 hu
  simp only [Hit.cells, List.mem_cons, List.not_mem_nil, or_false] at hu
  rcases hu with rfl | rfl | rfl | rfl | rfl | rfl | rfl <;> rfl

/-- a slice of hits that is owned, or nil -/
def HRow (w : World) (v : Value) (l : List Hit) : Prop := w.ownsRow 0 49 7 v l.length (hitsC l)
theorem HRow.nil (w : World) : HRow w (.slice none 0 0) [] := World.ownsRow_nil _ _ _ _
theorem HRow.past {w w' : World} {v : Value} {l : List Hit} (h : HRow w v l) (hb : Below w.heap.size w w') : HRow w' v l := World.ownsRow.kept h (grownBy_of_below hb) (by cases v.ownBlock <;> simp)
theorem HRow.view {w : World} {v : Value} {l : List Hit} (h : HRow w v l) : (v = .slice none 0 0 ∧ l = []) ∨ ∃ g cap rest, v = .slice (some ⟨g, 0, none⟩) l.length cap ∧ Blk w g 49 (hitsC l ++ rest) ∧ l.length ≤ cap ∧ cap ≤ maxLen ∧ l.length * 7 + rest.length = cap * 7 := by
  rcases h.2 with ⟨e1, e2⟩ | ⟨g, cap, cur, rfl, _, h3, h4, h5, h6, h7⟩
  · exact .inl ⟨e1, List.length_eq_zero_iff.1 e2⟩
  · refine .inr ⟨g, cap, cur.toList.drop (l.length * 7), rfl, ?_, h4, h5, ?_⟩
    · unfold Blk
      rw [h3, ← h7, List.take_append_drop]
    · have : cur.toList.length = cap * 7 := by simpa using h6
      rw [List.length_drop, this]
      have := Nat.mul_le_mul_right 7 h4
      omega
theorem HRow.mk' {w : World} {l : List Hit} {g cap : Nat} {rest : List Value} (hb : Blk w g 49 (hitsC l ++ rest)) (h1 : l.length ≤ cap) (h2 : cap ≤ maxLen) (h3 : l.length * 7 + rest.length = cap * 7) : HRow w (.slice (some ⟨g, 0, none⟩) l.length cap) l := by
  refine ⟨hitsC_len l, .inr ⟨g, cap, (hitsC l ++ rest).toArray, rfl, Nat.zero_le _, hb, h1, h2, ?_, ?_⟩⟩
  · simp [hitsC_len]; omega
  · simp [← hitsC_len]
theorem HRow.other {w : World} {v : Value} {l : List Hit} (h : HRow w v l) {b : Nat} {T : TypeId} {xs : List Value} (hb : Blk w b T xs) (hT : T ≠ 49) (j : Nat) (x : Value) : HRow (w.setCell ⟨b, j, none⟩ x) v l := by
  refine ownsRow_setCell_other h (fun e => ?_) _
  obtain ⟨c, fr, hc⟩ := ownRow_cells h _ e
  unfold Blk at hb; rw [hb] at hc; simp at hc; exact hT hc.2.1

/-- where the first one stands of which something is so; -1: nowhere -/
def fidxFrom {α : Type} (b : α → Bool) : List α → Nat → Int
  | [], _ => -1
  | x :: r, i => if b x then (i : Int) else fidxFrom b r (i + 1)
def fidx {α : Type} (b : α → Bool) (l : List α) : Int := fidxFrom b l 0
theorem fidxFrom_none {α : Type} (b : α → Bool) : ∀ (l : List α) (i : Nat), l.any b = false → fidxFrom b l i = -1
  | [], _, _ => rfl
  | x :: r, i, h => by
    simp only [List.any_cons, Bool.or_eq_false_iff] at h
    simp only [fidxFrom, h.1]
    exact fidxFrom_none b r (i + 1) h.2
theorem fidxFrom_some {α : Type} (b : α → Bool) : ∀ (l : List α) (i k : Nat) (hk : k < l.length), (l.take k).any b = false → b l[k] = true → fidxFrom b l i = ((i + k : Nat) : Int)
  | [], _, _, hk, _, _ => by simp at hk
  | x :: r, i, 0, _, _, h => by simp only [List.getElem_cons_zero] at h; simp [fidxFrom, h]
  | x :: r, i, k + 1, hk, h0, h => by
    simp only [List.take_succ_cons, List.any_cons, Bool.or_eq_false_iff] at h0
    simp only [fidxFrom, h0.1]
    have := fidxFrom_some b r (i + 1) k (by simpa using hk) h0.2 (by simpa using h)
    rw [show (if false = true then (i : Int) else fidxFrom b r (i + 1)) = fidxFrom b r (i + 1) from rfl, this]
    congr 1; omega
theorem fidx_forms {α : Type} (b : α → Bool) (l : List α) : (l.any b = false ∧ fidx b l = -1 ∧ l.find? b = none ∧ l.eraseP b = l) ∨ ∃ k, ∃ hk : k < l.length, fidx b l = (k : Int) ∧ l.find? b = some l[k] ∧ l.eraseP b = l.eraseIdx k ∧ l.any b = true := by
  unfold fidx
  have gen : ∀ (l : List α) (i : Nat), (l.any b = false ∧ fidxFrom b l i = -1 ∧ l.find? b = none ∧ l.eraseP b = l) ∨ ∃ k, ∃ hk : k < l.length, fidxFrom b l i = ((i + k : Nat) : Int) ∧ l.find? b = some l[k] ∧ l.eraseP b = l.eraseIdx k ∧ l.any b = true := by
    intro l
    induction l with
    | nil => intro i; exact .inl ⟨rfl, rfl, rfl, rfl⟩
    | cons x r ih =>
      intro i
      cases hx : b x with
      | true => exact .inr ⟨0, by simp, by simp [fidxFrom, hx], by simp [hx], by simp [hx], by simp [hx]⟩
      | false =>
        rcases ih (i + 1) with ⟨h1, h2, h3, h4⟩ | ⟨k, hk, h2, h3, h4, h5⟩
        · exact .inl ⟨by simp [hx, h1], by simp [fidxFrom, hx, h2], by simp [hx, h3], by simp [hx, h4]⟩
        · exact .inr ⟨k + 1, by simpa using hk, by simp only [fidxFrom, hx]; rw [show (if false = true then (i : Int) else fidxFrom b r (i + 1)) = fidxFrom b r (i + 1) from rfl, h2]; congr 1; omega, by simp [hx, h3], by simp [hx, h4], by simp [hx, h5]⟩
  rcases gen l 0 with h | ⟨k, hk, h1, h2⟩
  · exact .inl h
  · exact .inr ⟨k, hk, by rw [h1, Nat.zero_add], h2⟩

set_option maxRecDepth 100000 in
set_option maxHeartbeats 2000000 in
theorem hindex_any (w : World) (v : Value) (l : List Hit) (g : Nat) (lb : Array Value) (b : Hit → Bool) (hr : HRow w v l) (hsm : l.length ≤ 1000000)
    (eg : ∀ args w, (callFunc g args).run Tryz.prog w = .ok (.enter g args) w)
    (hp : ∀ x, x ∈ l → ∀ W, Below w.heap.size w W → Calls Tryz.prog g (#[.agg #[.int .i64 x.asid, .int .i64 x.page, .int .i64 x.frame, .bool x.r.w, .bool x.r.u, .bool x.r.x, .bool x.dirty]] ++ lb) W fun e W' => e = .returned (.bool (b x)) ∧ Below W.heap.size W W') :
    Calls Tryz.prog 142 #[v, .func (.func g) #[] lb] w
      fun e w' => e = .returned (.int .i64 (fidx b l)) ∧ Below w.heap.size w w' := by
  rcases hr.view with ⟨rfl, rfl⟩ | ⟨B, cap, rest, rfl, hb, hc1, hc2, hc3⟩
  · clear hp eg hr
    go_enter Tryz.func142, Tryz.ntmps142
    go_wp2
    go_rounds 1
    go_wp2
    go_ret
    exact ⟨rfl, Below.refl _ _⟩
  · obtain ⟨len, hlen⟩ : ∃ len, l.length = len := ⟨_, rfl⟩
    rw [hlen] at hsm ⊢
    have HL := Lib.hid hlen
    have HP := Lib.hid hp
    obtain ⟨res, hres⟩ : ∃ res, fidx b l = res := ⟨_, rfl⟩
    rw [hres]
    have HR := Lib.hid hres
    clear hlen hp hr hc1 hc2 hc3 hres
    go_enter Tryz.func142, Tryz.ntmps142
    go_wp2
    go_loopw [8] (fun i wr => ∃ k : Nat, k ≤ len ∧ i = .int .i64 k ∧ (l.take k).any b = false ∧ Below w.heap.size w wr) (fun i _ => len - (intOf i).toNat)
    case atStart => exact ⟨0, by omega, rfl, by simp, Below.refl _ _⟩
    case round =>
      obtain ⟨k, hk, rfl, hno, hB⟩ := hrel
      by_cases hkl : k < len
      · have hB' := hb.past hB
        have hkl' : k < l.length := by rw [HL.out]; exact hkl
        obtain ⟨x, hx⟩ : ∃ x, l.getD k hit0 = x := ⟨_, rfl⟩
        have hcl : ∀ j u, j < 7 → x.cells[j]? = some u → wr.cell? ⟨B, k * 7 + j, none⟩ = some u := fun j u hj hu => hB'.cell (by
          rw [List.getElem?_append_left (by rw [hitsC_len]; omega), hitsC_get l k j hkl' hj, hx]; exact hu)
        have c0 : wr.cell? ⟨B, k * 7, none⟩ = some (.int .i64 x.asid) := hcl 0 _ (by omega) rfl
        have c1 := hcl 1 _ (by omega) rfl
        have c2 := hcl 2 _ (by omega) rfl
        have c3 := hcl 3 _ (by omega) rfl
        have c4 := hcl 4 _ (by omega) rfl
        have c5 := hcl 5 _ (by omega) rfl
        have c6 := hcl 6 _ (by omega) rfl
        have hxm : x ∈ l := by rw [← hx, getD_at _ hkl']; exact List.getElem_mem _
        have hcall := HP.out x hxm wr hB
        have htake : (l.take (k + 1)).any b = b x := by
          rw [List.take_add_one, List.getElem?_eq_getElem hkl', List.any_append, hno, ← hx, getD_at _ hkl']; simp
        have hany : b x = true → res = (k : Int) := fun h => by
          rw [← HR.out]; unfold fidx
          rw [fidxFrom_some b l 0 k hkl' hno (by rw [← hx, getD_at _ hkl'] at h; exact h), Nat.zero_add]
        obtain ⟨bx, hbx⟩ : ∃ bx, b x = bx := ⟨_, rfl⟩
        rw [hbx] at hcall htake hany
        have HT := Lib.hid htake
        have HA := Lib.hid hany
        clear htake hany hbx hx hxm hb hB' hcl hno hkl'
        cases bx
        · go_wp2_with ((with_reducible refine Calls.mono hcall ?_); rintro e W' ⟨rfl, hb2⟩)
          go_roundw
          case rel => exact ⟨k + 1, by omega, by go_num, HT.out, hB.trans (hb2.mono hB.size)⟩
          case measure => simp [intOf]; omega
        · go_wp2_with ((with_reducible refine Calls.mono hcall ?_); rintro e W' ⟨rfl, hb2⟩)
          go_ret
          have hr := HA.out trivial
          exact ⟨by rw [hr]; rfl, hB.trans (hb2.mono hB.size)⟩
      · obtain rfl : k = len := by omega
        have hr : res = -1 := by
          rw [← HR.out]; unfold fidx
          rw [← HL.out, List.take_length] at hno
          exact fidxFrom_none b l 0 hno
        clear hno
        go_wp2
        go_ret
        exact ⟨by rw [hr]; rfl, hB⟩

theorem Blk.setCells {b : Nat} {T : TypeId} : ∀ (vs pre mid post : List Value) {w : World}, Blk w b T (pre ++ mid ++ post) → vs.length = mid.length → Blk (w.setCells b pre.length vs) b T (pre ++ vs ++ post)
  | [], pre, mid, post, w, h, hl => by
    have : mid = [] := List.length_eq_zero_iff.1 hl.symm
    subst this; exact h
  | v :: r, pre, [], post, w, h, hl => by simp at hl
  | v :: r, pre, m :: mid, post, w, h, hl => by
    have h1 := h.set pre.length v
    have e : (pre ++ (m :: mid) ++ post).set pre.length v = (pre ++ [v]) ++ mid ++ post := by
      rw [List.append_assoc, List.set_append_right _ _ (Nat.le_refl _)]; simp
    rw [e] at h1
    have h2 := Blk.setCells r (pre ++ [v]) mid post h1 (by simpa using hl)
    simp only [List.length_append, List.length_cons, List.length_nil, List.append_assoc, List.cons_append, List.nil_append] at h2 ⊢
    exact h2
theorem Kept.setCells {B : Nat} {S : Nat → Prop} {a : World} {b : Nat} (hS : S b ∨ B ≤ b) : ∀ (vs : List Value) (o : Nat) {W : World}, Kept B S a W → Kept B S a (W.setCells b o vs)
  | [], _, _, h => h
  | v :: r, o, _, h => Kept.setCells hS r (o + 1) (h.setCell (p := ⟨b, o, none⟩) hS v)

theorem addh (b off j : Nat) : (⟨b, off, none⟩ : Addr).add j = ⟨b, off + j, none⟩ := by
  unfold Addr.add; split <;> simp_all
def zeroHit : Value := .agg #[.int .i64 0, .int .i64 0, .int .i64 0, .bool false, .bool false, .bool false, .bool false]
theorem zero_hit (w : World) : (zeroValue 49).run Tryz.prog w = .ok zeroHit w := by kernel_rfl
theorem info_hit : (Tryz.prog.info? 49).map (fun i => (i.zero, i.size, i.bytes)) = some (some zeroHit, 7, 32) := by kernel_rfl
theorem run_clear_hit (w : World) (ty : TypeId) (b o c : Nat) (hc : ∀ j, j < 7 → (w.cell? ⟨b, o + j, none⟩).isSome = true) (hf : ∀ j, j < 7 → w.frozen? ⟨b, o + j, none⟩ = false) :
    (Builtin.clear_ #[63] ty #[.slice (some ⟨b, o, none⟩) 1 c]).run Tryz.prog w = .ok (.tuple #[]) (w.setCells b o hit0.cells) := by
  have hzc : (Builtin.zeroCells zeroHit.cells 1).toList = hit0.cells := by kernel_rfl
  have hst := run_storeCells_cells (P := Tryz.prog) b o hit0.cells 0 w (by simpa [Hit.cells] using hc) (by simpa [Hit.cells] using hf) (by intro v hv'; exact hitsC_one [hit0] v (by simpa [hitsC] using hv'))
  simp only [Nat.add_zero] at hst
  have hz := fun w => zero_hit w
  obtain ⟨z, hz0⟩ : ∃ z, zeroHit = z := ⟨_, rfl⟩
  obtain ⟨zs, hzs⟩ : ∃ z, hit0.cells = z := ⟨_, rfl⟩
  rw [hz0] at hz hzc
  rw [hzs] at hst hzc ⊢
  simp [Builtin.clear_, run_underlying Tryz.underlying63, hz, hzc, hst]

set_option maxRecDepth 100000 in
set_option maxHeartbeats 2000000 in
theorem hdel_any (w : World) (g cap i j : Nat) (hij : j = i + 1) (l : List Hit) (rest : List Value) (hb : Blk w g 49 (hitsC l ++ rest)) (h1 : l.length ≤ cap) (h2 : cap ≤ maxLen) (h3 : l.length * 7 + rest.length = cap * 7) (hi : i < l.length) :
    Calls Tryz.prog 109 #[.slice (some ⟨g, 0, none⟩) l.length cap, .int .i64 (i : Int), .int .i64 (j : Int)] w
      fun e w' => e = .returned (.slice (some ⟨g, 0, none⟩) (l.eraseIdx i).length cap) ∧ HRow w' (.slice (some ⟨g, 0, none⟩) (l.eraseIdx i).length cap) (l.eraseIdx i) ∧ Kept w.heap.size (fun k => k = g) w w' := by
  obtain ⟨i0, hi0, hz0, hz1, hz2⟩ := info_parts info_hit
  unfold maxLen at h2
  obtain ⟨news, hnews⟩ : ∃ news, news = hitsC (l.drop (i + 1)) := ⟨_, rfl⟩
  have hlen : news.length = (l.length - (i + 1)) * 7 := by rw [hnews, hitsC_len, List.length_drop]
  have hsplit : hitsC l = hitsC (l.take i) ++ (l[i].cells ++ news) := by
    rw [hnews]
    conv => lhs; rw [← List.take_append_drop i l, hitsC_append, List.drop_eq_getElem_cons hi]
    rfl
  have htl : (hitsC (l.take i)).length = i * 7 := by rw [hitsC_len, List.length_take]; congr 1; omega
  have hcellN : ∀ t u, news[t]? = some u → w.drew.cell? ⟨g, (i + 1) * 7 + t, none⟩ = some u := fun t u hu => by
    have ht : t < news.length := (List.getElem?_eq_some_iff.1 hu).1
    show w.cell? _ = _
    refine hb.cell ?_
    rw [hsplit, List.append_assoc, List.getElem?_append_right (by omega), htl, List.append_assoc, List.getElem?_append_right (by show 7 ≤ _; omega), List.getElem?_append_left (by show _ - 7 < _; omega), ← hu]
    congr 1; show (i + 1) * 7 + t - i * 7 - 7 = t; omega
  obtain ⟨A, hA, hsrc⟩ : ∃ A : Addr, (if cap = j then (some (⟨g, 0, none⟩ : Addr)) else some ⟨g, j * 7, none⟩) = some A ∧ Hid (∀ t u, news[t]? = some u → w.drew.cell? (A.add t) = some u) := by
    by_cases h : cap = j
    · refine ⟨⟨g, 0, none⟩, by simp [h], Lib.hid fun t u hu => ?_⟩
      have h0 : news.length = 0 := by rw [hlen]; omega
      rw [List.length_eq_zero_iff.1 h0] at hu
      simp at hu
    · refine ⟨⟨g, j * 7, none⟩, by simp [h], Lib.hid fun t u hu => ?_⟩
      rw [addh, hij]; exact hcellN t u hu
  have hall : ∀ t, t < cap * 7 → (w.drew.cell? ⟨g, t, none⟩).isSome = true ∧ w.drew.frozen? ⟨g, t, none⟩ = false := fun t ht => by
    have hlt : t < (hitsC l ++ rest).length := by rw [List.length_append, hitsC_len]; omega
    refine ⟨?_, hb.free t⟩
    show (w.cell? _).isSome = true
    rw [hb.cell (List.getElem?_eq_getElem hlt)]; rfl
  have s1 : Hid (news.length = (l.length - j) * 7) := Lib.hid (by rw [hij]; exact hlen)
  have s2 : Hid (∀ u ∈ news, u.oneCell' = true) := Lib.hid (by rw [hnews]; exact hitsC_one _)
  have s3 : Hid (∀ t, t < news.length → (w.drew.cell? ⟨g, 0 + i * 7 + t, none⟩).isSome = true ∧ w.drew.frozen? ⟨g, 0 + i * 7 + t, none⟩ = false) := Lib.hid fun t ht => by
    have hq : 0 + i * 7 + t < cap * 7 := by rw [hlen] at ht; omega
    exact hall _ hq
  obtain ⟨W1, hW1⟩ : ∃ W1, W1 = w.drew.setCells g (0 + i * 7) news := ⟨_, rfl⟩
  have hB1 : ∃ lst rest1, Blk W1 g 49 (hitsC (l.eraseIdx i) ++ (lst ++ rest1)) ∧ lst.length = 7 ∧ (l.eraseIdx i).length * 7 + (lst ++ rest1).length = cap * 7 := by
    have hE : hitsC (l.eraseIdx i) = hitsC (l.take i) ++ news := by
      rw [List.eraseIdx_eq_take_drop_succ, hitsC_append, hnews]
    have hcut : hitsC l ++ rest = hitsC (l.take i) ++ (l[i].cells ++ news).take news.length ++ ((l[i].cells ++ news).drop news.length ++ rest) := by
      have e := List.take_append_drop news.length (l[i].cells ++ news)
      rw [hsplit]
      conv => lhs; rw [← e]
      simp only [List.append_assoc]
    have hb' := hb.drew
    rw [hcut] at hb'
    have h := Blk.setCells news (hitsC (l.take i)) _ _ hb' (by rw [List.length_take, List.length_append]; omega)
    rw [htl, ← Nat.zero_add (i * 7), ← hW1, ← hE] at h
    have hl1 : (l[i].cells ++ news).length = 7 + news.length := by rw [List.length_append]; rfl
    have hl2 : ((l[i].cells ++ news).drop news.length).length = 7 := by rw [List.length_drop, hl1]; omega
    refine ⟨_, rest, h, hl2, ?_⟩
    rw [List.length_append, hl2, List.length_eraseIdx_of_lt hi]; omega
  obtain ⟨lst, rest1, hB1, hl7, htot⟩ := hB1
  have hle : (l.eraseIdx i).length = l.length - 1 := List.length_eraseIdx_of_lt hi
  have hK1 : Kept w.heap.size (fun k => k = g) w W1 := by rw [hW1]; exact Kept.setCells (S := fun k => k = g) (.inl rfl) _ _ ((Kept.refl _ _ w).drewN 1)
  have hcl : ∀ ty, (Builtin.clear_ #[63] ty #[.slice (some ⟨g, (i + (l.length - j)) * 7, none⟩) (l.length - (i + (l.length - j))) (cap - (i + (l.length - j)))]).run Tryz.prog W1 = .ok (.tuple #[]) (W1.setCells g ((i + (l.length - j)) * 7) hit0.cells) := fun ty => by
    rw [show l.length - (i + (l.length - j)) = 1 by omega]
    refine run_clear_hit W1 ty g _ _ (fun q hq => ?_) (fun q hq => hB1.free _)
    have hlt : (i + (l.length - j)) * 7 + q < (hitsC (l.eraseIdx i) ++ (lst ++ rest1)).length := by rw [List.length_append, hitsC_len, hle, List.length_append, hl7]; omega
    rw [hB1.cell (List.getElem?_eq_getElem hlt)]; rfl
  obtain ⟨n, hn⟩ : ∃ n, l.length = n := ⟨_, rfl⟩
  have hW : Hid (W1 = w.drew.setCells g (0 + i * 7) news) := Lib.hid hW1
  have HB1 := Lib.hid hB1
  have HK1 := Lib.hid hK1
  have HLe := Lib.hid hle
  have HTot := Lib.hid htot
  have HL7 := Lib.hid hl7
  rw [hn] at h1 h3 hi hcl s1 HLe ⊢
  have HN := Lib.hid hn
  have hic : i ≤ cap := by omega
  have hjn : j ≤ n := by omega
  have hjc : j ≤ cap := by omega
  have hlt : i < j := by omega
  have hne : ((i : Int) == (j : Int)) = false := beq_eq_false_iff_ne.2 (by omega)
  have HIJ := Lib.hid hij
  clear hW1 hB1 hK1 hle htot hl7 hn hb h3 hnews hlen hsplit htl hcellN hall hi hij
  go_enter Tryz.func109, Tryz.ntmps109
  go_wp2_with fail
  go_region_law (refine step_append_room rfl (.tmp 22) (.tmp 25) 63 rfl 49 i0 7 Tryz.underlying63 hi0 hz1 g 0 i cap (by simp [Act.eval, Act.put]) A (n - j) (cap - j) news (by simp [Act.eval, Act.put]) s1.out hsrc.out s2.out (by omega) s3.out ?_; rw [← hW.out])
  go_wp2_with fail
  go_ret
  have e : i + (n - j) = (l.eraseIdx i).length := by have := HIJ.out; rw [HLe.out]; omega
  have hr := HB1.out
  rw [← List.append_assoc] at hr
  have h := Blk.setCells hit0.cells (hitsC (l.eraseIdx i)) _ _ hr HL7.out.symm
  rw [hitsC_len, ← e, List.append_assoc] at h
  refine ⟨by rw [← e]; rfl, ?_, Kept.setCells (S := fun k => k = g) (.inl rfl) _ _ HK1.out⟩
  have htot := HTot.out
  rw [List.length_append, HL7.out] at htot
  exact HRow.mk' h (by rw [HLe.out]; omega) (by unfold maxLen; omega) (by rw [List.length_append]; show _ + (7 + _) = _; omega)
end Go.Proofs.YtgaififhhffpfaaGreatDoor
