/- Rows of integers and of pointers in memory: slices.IndexFunc, slices.DeleteFunc. frame.Mem.Fill: all words of a frame. Things that lie apart from one another in memory: what a call on one of them leaves of the others. -/
import Derived.Test.YtglohconhbcchaaGreatDoorTlb2
import Derived.Test.YtglohconhbcchaaGreatDoorPath
import Derived.Laws.CopyRow
import Derived.Test.YtglohconhbcchaaGreatDoorBlk
namespace Go.Proofs.YtglohconhbcchaaGreatDoor
open Go.RowKit Go.Shelf

theorem fidx_map {α : Type} (q : α → Bool) (l : List α) : fidx id (l.map q) = fidx q l := by
  unfold fidx
  have gen : ∀ (l : List α) (i : Nat), fidxFrom id (l.map q) i = fidxFrom q l i := by
    intro l
    induction l with
    | nil => intro i; rfl
    | cons x r ih => intro i; simp only [List.map_cons, fidxFrom, id]; rw [ih]
  exact gen l 0
/-- those that stay, of the first m -/
def keepTo {α : Type} (d : α) (l : List α) (bs : List Bool) (m : Nat) : List α := ((List.range m).filter fun i => !bs.getD i false).map fun i => l.getD i d
theorem keepTo_succ {α : Type} (d : α) (l : List α) (bs : List Bool) (m : Nat) : keepTo d l bs (m + 1) = keepTo d l bs m ++ (if bs.getD m false then [] else [l.getD m d]) := by
  unfold keepTo
  rw [List.range_succ, List.filter_append, List.map_append]
  congr 1
  simp only [List.filter_cons, List.filter_nil]
  cases bs.getD m false <;> rfl
theorem keepTo_len {α : Type} (d : α) (l : List α) (bs : List Bool) : ∀ m, (keepTo d l bs m).length ≤ m
  | 0 => by simp [keepTo]
  | m + 1 => by
    have := keepTo_len d l bs m
    rw [keepTo_succ, List.length_append]
    split <;> simp <;> omega
theorem keepTo_first {α : Type} (d : α) (l : List α) (bs : List Bool) : ∀ k, k ≤ l.length → (bs.take k).any id = false → k ≤ bs.length → keepTo d l bs k = l.take k
  | 0, _, _, _ => by simp [keepTo]
  | k + 1, hk, h, hb => by
    rw [List.take_add_one, List.getElem?_eq_getElem (by omega), List.any_append] at h
    simp only [Bool.or_eq_false_iff] at h
    have ih := keepTo_first d l bs k (by omega) h.1 (by omega)
    have hbk : bs.getD k false = false := by
      rw [List.getD, List.getElem?_eq_getElem (by omega)]
      simpa using h.2
    rw [keepTo_succ, ih, hbk, List.take_add_one, List.getElem?_eq_getElem (by omega), List.getD, List.getElem?_eq_getElem (by omega)]
    rfl
theorem keepTo_filter {α : Type} (d : α) (l : List α) (q : α → Bool) : ∀ m, m ≤ l.length → keepTo d l (l.map q) m = (l.take m).filter fun x => !q x
  | 0, _ => by simp [keepTo]
  | m + 1, hm => by
    have hq : (l.map q).getD m false = q (l.getD m d) := by
      rw [List.getD, List.getD, List.getElem?_map, List.getElem?_eq_getElem (by omega)]; rfl
    rw [keepTo_succ, keepTo_filter d l q m (by omega), hq, List.take_add_one, List.getElem?_eq_getElem (by omega), List.getD, List.getElem?_eq_getElem (by omega), List.filter_append]
    congr 1
    simp only [Option.getD_some, Option.toList_some, List.filter_cons, List.filter_nil]
    cases q l[m] <;> rfl
def delB {α : Type} (d : α) (l : List α) (bs : List Bool) : List α := keepTo d l bs l.length
theorem delB_filter {α : Type} (d : α) (l : List α) (q : α → Bool) : delB d l (l.map q) = l.filter fun x => !q x := by
  unfold delB; rw [keepTo_filter d l q _ (Nat.le_refl _), List.take_length]
theorem delB_all {α : Type} (d : α) (l : List α) (bs : List Bool) (hb : bs.length = l.length) (h : bs.any id = false) : delB d l bs = l := by
  unfold delB
  rw [keepTo_first d l bs _ (Nat.le_refl _) (by rw [← hb, List.take_length]; exact h) (by omega), List.take_length]
/-- a row whose first places hold what stays, behind one more -/
theorem shift_cells {α : Type} (d : α) (V : α → Value) (l : List α) (bs : List Bool) (rest : List Value) (m : Nat) (hm : m < l.length) (hk : (keepTo d l bs m).length < m) (hb : bs.getD m false = false) :
    ((keepTo d l bs m ++ l.drop (keepTo d l bs m).length).map V ++ rest).set (keepTo d l bs m).length (V (l.getD m d)) = (keepTo d l bs (m + 1) ++ l.drop (keepTo d l bs (m + 1)).length).map V ++ rest := by
  obtain ⟨K, hK⟩ : ∃ K, keepTo d l bs m = K := ⟨_, rfl⟩
  have hs : keepTo d l bs (m + 1) = K ++ [l.getD m d] := by rw [keepTo_succ, hK, hb]; rfl
  rw [hK] at hk
  rw [hs, hK]
  have hd : l.drop K.length = l[K.length]'(by omega) :: l.drop (K.length + 1) := List.drop_eq_getElem_cons (by omega)
  rw [hd]
  simp only [List.map_append, List.map_cons, List.append_assoc, List.length_append, List.length_cons, List.length_nil, List.cons_append, List.nil_append]
  rw [List.set_append_right _ _ (by simp)]
  simp
theorem shift_at {α : Type} (d : α) (V : α → Value) (l : List α) (bs : List Bool) (rest : List Value) (m : Nat) (hm : m < l.length) : ((keepTo d l bs m ++ l.drop (keepTo d l bs m).length).map V ++ rest)[m]? = some (V (l.getD m d)) := by
  have hk := keepTo_len d l bs m
  obtain ⟨K, hK⟩ : ∃ K, keepTo d l bs m = K := ⟨_, rfl⟩
  rw [hK] at hk ⊢
  rw [List.getElem?_append_left (by simp; omega), List.getElem?_map, List.getElem?_append_right hk, List.getElem?_drop, show K.length + (m - K.length) = m by omega, List.getD, List.getElem?_eq_getElem hm]
  rfl

theorem zero_I (w : World) : (zeroValue 3).run Tryz.prog w = .ok (.int .i64 0) w := by kernel_rfl
theorem run_clear_I (w : World) (ty : TypeId) (b o m c : Nat) (hc : ∀ j, j < m + 1 → (w.cell? ⟨b, o + j, none⟩).isSome = true) (hf : ∀ j, j < m + 1 → w.frozen? ⟨b, o + j, none⟩ = false) :
    (Builtin.clear_ #[43] ty #[.slice (some ⟨b, o, none⟩) (m + 1) c]).run Tryz.prog w = .ok (.tuple #[]) (w.setCells b o (List.replicate (m + 1) (.int .i64 0))) := by
  have hzc : (Builtin.zeroCells (Value.cells (.int .i64 0)) (m + 1)).toList = List.replicate (m + 1) (.int .i64 0) := by
    have e : Value.cells (.int .i64 0) = #[.int .i64 0] := by kernel_rfl
    rw [e]
    refine List.ext_getElem? fun i => ?_
    simp only [Builtin.zeroCells, List.size_toArray, List.length_cons, List.length_nil, Nat.zero_add, Nat.mul_one, Nat.mod_one, Array.getElem?_toList, Array.getElem?_map, Array.getElem?_range, List.getElem?_replicate]
    split <;> rfl
  have hst := run_storeCells_cells (P := Tryz.prog) b o (List.replicate (m + 1) (.int .i64 0)) 0 w (by simpa using hc) (by simpa using hf) (by intro v hv'; rw [List.mem_replicate] at hv'; rw [hv'.2]; rfl)
  simp only [Nat.add_zero] at hst
  have hz := fun w => zero_I w
  obtain ⟨z, hz0⟩ : ∃ z, (.int .i64 0 : Value) = z := ⟨_, rfl⟩
  rw [hz0] at hz hzc hst ⊢
  obtain ⟨zs, hzs⟩ : ∃ zs, List.replicate (m + 1) z = zs := ⟨_, rfl⟩
  rw [hzs] at hst hzc ⊢
  simp [Builtin.clear_, run_underlying Tryz.underlying43, hz, hzc, hst]
def valI (x : Int) : Value := .int .i64 x
/-- a slice that is owned, or nil -/
def RowI (w : World) (v : Value) (l : List Int) : Prop := w.ownsRow 0 3 1 v l.length (l.map valI)
theorem RowI.nil (w : World) : RowI w (.slice none 0 0) [] := World.ownsRow_nil _ _ _ _
theorem RowI.past {w w' : World} {v : Value} {l : List Int} (h : RowI w v l) (hb : Below w.heap.size w w') : RowI w' v l := World.ownsRow.kept h (grownBy_of_below hb) (by cases v.ownBlock <;> simp)
theorem RowI.view {w : World} {v : Value} {l : List Int} (h : RowI w v l) : (v = .slice none 0 0 ∧ l = []) ∨ ∃ g cap rest, v = .slice (some ⟨g, 0, none⟩) l.length cap ∧ Blk w g 3 (l.map valI ++ rest) ∧ l.length ≤ cap ∧ cap ≤ maxLen ∧ l.length + rest.length = cap := by
  rcases h.2 with ⟨e1, e2⟩ | ⟨g, cap, cur, rfl, _, h3, h4, h5, h6, h7⟩
  · exact .inl ⟨e1, List.length_eq_zero_iff.1 e2⟩
  · rw [Nat.mul_one] at h6 h7
    refine .inr ⟨g, cap, cur.toList.drop l.length, rfl, ?_, h4, h5, ?_⟩
    · unfold Blk
      rw [h3, ← h7, List.take_append_drop]
    · have : cur.toList.length = cap := by simpa using h6
      rw [List.length_drop, this]
      omega
theorem RowI.mk' {w : World} {l : List Int} {g cap : Nat} {rest : List Value} (hb : Blk w g 3 (l.map valI ++ rest)) (h1 : l.length ≤ cap) (h2 : cap ≤ maxLen) (h3 : l.length + rest.length = cap) : RowI w (.slice (some ⟨g, 0, none⟩) l.length cap) l := by
  refine ⟨by simp, .inr ⟨g, cap, (l.map valI ++ rest).toArray, rfl, Nat.zero_le _, hb, h1, h2, ?_, ?_⟩⟩
  · simp; omega
  · simp
theorem RowI.other {w : World} {v : Value} {l : List Int} (h : RowI w v l) {b : Nat} {T : TypeId} {xs : List Value} (hb : Blk w b T xs) (hT : T ≠ 3) (j : Nat) (x : Value) : RowI (w.setCell ⟨b, j, none⟩ x) v l := by
  refine ownsRow_setCell_other h (fun e => ?_) _
  obtain ⟨c, fr, hc⟩ := ownRow_cells h _ e
  unfold Blk at hb; rw [hb] at hc; simp at hc; exact hT hc.2.1
theorem RowI.keep {w w' : World} {v : Value} {l : List Int} (h : RowI w v l) (hk : ∀ b, v.ownBlock = some b → w'.heap[b]? = w.heap[b]?) : RowI w' v l := by
  rcases h.view with ⟨rfl, rfl⟩ | ⟨g, cap, rest, rfl, hb, h1, h2, h3⟩
  · exact RowI.nil _
  · exact RowI.mk' (hb.of_heap (hk g rfl)) h1 h2 h3
theorem RowI.lt' {w : World} {v : Value} {l : List Int} (h : RowI w v l) : ∀ b, v.ownBlock = some b → b < w.heap.size := by
  rcases h.view with ⟨rfl, rfl⟩ | ⟨g, cap, rest, rfl, hb, h1, h2, h3⟩
  · intro b hb; simp [Value.ownBlock] at hb
  · intro b hb'; simp [Value.ownBlock] at hb'; subst hb'; exact hb.lt
theorem RowI.one {w : World} {v : Value} {l : List Int} (h : RowI w v l) : v.oneCell' = true := by
  rcases h.view with ⟨rfl, _⟩ | ⟨g, cap, rest, rfl, _⟩ <;> rfl
theorem RowI.cell {w : World} {g n cap : Nat} {l : List Int} {rest : List Value} (_ : n = cap) (hb : Blk w g 3 (l.map valI ++ rest)) (k : Nat) (hk : k < l.length) : w.cell? ⟨g, k, none⟩ = some (.int .i64 (l.getD k 0)) :=
  hb.cell (by rw [List.getElem?_append_left (by simpa using hk), List.getElem?_map, List.getElem?_eq_getElem hk, List.getD, List.getElem?_eq_getElem hk]; rfl)

set_option maxRecDepth 100000 in
set_option maxHeartbeats 2000000 in
theorem ixI_any (w : World) (v : Value) (l : List Int) (g : Nat) (lb : Array Value) (bs : List Bool) (hr : RowI w v l) (hbs : bs.length = l.length)
    (eg : ∀ args w, (callFunc g args).run Tryz.prog w = .ok (.enter g args) w)
    (hp : ∀ k, k < l.length → ∀ W, Below w.heap.size w W → Calls Tryz.prog g (#[.int .i64 (l.getD k 0)] ++ lb) W fun e W' => e = .returned (.bool (bs.getD k false)) ∧ Below W.heap.size W W') :
    Calls Tryz.prog 129 #[v, .func (.func g) #[] lb] w
      fun e w' => e = .returned (.int .i64 (fidx id bs)) ∧ Below w.heap.size w w' := by
  rcases hr.view with ⟨rfl, rfl⟩ | ⟨B, cap, rest, rfl, hb, hc1, hc2, hc3⟩
  · obtain rfl : bs = [] := List.length_eq_zero_iff.1 hbs
    clear hp eg hr
    go_enter Tryz.func129, Tryz.ntmps129
    go_wp2
    go_rounds 1
    go_wp2
    go_ret
    exact ⟨rfl, Below.refl _ _⟩
  · have hcell := fun W (hW : Below w.heap.size w W) => RowI.cell (n := 0) rfl (hb.past hW)
    have hlt := hb.lt
    obtain ⟨len, hlen⟩ : ∃ len, l.length = len := ⟨_, rfl⟩
    rw [hlen] at hp hcell hbs hc1 ⊢
    unfold maxLen at hc2
    have HP := Lib.hid hp
    have HC := Lib.hid hcell
    obtain ⟨res, hres⟩ : ∃ res, fidx id bs = res := ⟨_, rfl⟩
    rw [hres]
    have HR := Lib.hid hres
    have HBs := Lib.hid hbs
    clear hlen hp hr hc3 hres hcell hb hbs
    go_enter Tryz.func129, Tryz.ntmps129
    go_wp2
    go_loopw [8] (fun i wr => ∃ k : Nat, k ≤ len ∧ i = .int .i64 k ∧ (bs.take k).any id = false ∧ Below w.heap.size w wr) (fun i _ => len - (intOf i).toNat)
    case atStart => exact ⟨0, by omega, rfl, by simp, Below.refl _ _⟩
    case round =>
      obtain ⟨k, hk, rfl, hno, hB⟩ := hrel
      by_cases hkl : k < len
      · have c0 := HC.out wr hB k hkl
        have hcall := HP.out k hkl wr hB
        have hkb : k < bs.length := by rw [HBs.out]; exact hkl
        have htake : (bs.take (k + 1)).any id = bs.getD k false := by
          rw [List.take_add_one, List.getElem?_eq_getElem hkb, List.any_append, hno, List.getD, List.getElem?_eq_getElem hkb]; simp
        have hany : bs.getD k false = true → res = (k : Int) := fun h => by
          rw [← HR.out]; unfold fidx
          rw [fidxFrom_some id bs 0 k hkb hno (by rw [List.getD, List.getElem?_eq_getElem hkb] at h; exact h), Nat.zero_add]
        obtain ⟨bx, hbx⟩ : ∃ bx, bs.getD k false = bx := ⟨_, rfl⟩
        obtain ⟨x, hx⟩ : ∃ x, l.getD k 0 = x := ⟨_, rfl⟩
        rw [hbx] at hcall htake hany
        rw [hx] at c0 hcall
        have HT := Lib.hid htake
        have HA := Lib.hid hany
        clear htake hany hbx hno hkb hx
        have lt1 : B < wr.heap.size := Nat.lt_of_lt_of_le hlt hB.size
        cases bx
        · go_wp2_with ((with_reducible refine Calls.mono hcall ?_); rintro e W' ⟨rfl, hb2⟩)
          go_roundw
          case rel => exact ⟨k + 1, by omega, by go_num, HT.out, hB.trans (hb2.mono hB.size)⟩
          case measure => simp [intOf]; omega
        · go_wp2_with ((with_reducible refine Calls.mono hcall ?_); rintro e W' ⟨rfl, hb2⟩)
          go_ret
          have hr := HA.out trivial
          exact ⟨by rw [hr]; rfl, hB.trans (hb2.mono hB.size)⟩
      · obtain rfl : k = len := by omega
        have hr : res = -1 := by
          rw [← HR.out]; unfold fidx
          rw [← HBs.out, List.take_length] at hno
          exact fidxFrom_none id bs 0 hno
        clear hno
        go_wp2
        go_ret
        exact ⟨by rw [hr]; rfl, hB⟩

set_option maxRecDepth 100000 in
set_option maxHeartbeats 4000000 in
theorem delI_any (w : World) (v : Value) (l : List Int) (g : Nat) (lb : Array Value) (bs : List Bool) (hr : RowI w v l) (hbs : bs.length = l.length)
    (eg : ∀ args w, (callFunc g args).run Tryz.prog w = .ok (.enter g args) w)
    (hp : ∀ k, k < l.length → ∀ W, Kept w.heap.size (fun b => v.ownBlock = some b) w W → Calls Tryz.prog g (#[.int .i64 (l.getD k 0)] ++ lb) W fun e W' => e = .returned (.bool (bs.getD k false)) ∧ Below W.heap.size W W') :
    Calls Tryz.prog 171 #[v, .func (.func g) #[] lb] w
      fun e w' => ∃ v', e = .returned v' ∧ RowI w' v' (delB 0 l bs) ∧ v'.ownBlock = v.ownBlock ∧ Kept w.heap.size (fun b => v.ownBlock = some b) w w' := by
  have hix := ixI_any w v l g lb bs hr hbs eg (fun k hk W hW => hp k hk W (Kept.of_below hW))
  rcases fidx_forms id bs with ⟨ha, hi, _, _⟩ | ⟨k0, hk0, hi, hf0, _, _⟩
  · rw [hi] at hix
    rw [delB_all 0 l bs hbs ha]
    have HI := Lib.hid hix
    have HR := Lib.hid hr
    clear hix hr hp hbs ha hi eg
    go_enter Tryz.func171, Tryz.ntmps171
    go_wp2_with (go_at_call 129; (with_reducible refine HI.out.mono ?_); rintro e W1 ⟨rfl, b1⟩)
    go_ret
    exact ⟨v, rfl, HR.out.past b1, rfl, Kept.of_below b1⟩
  · rcases hr.view with ⟨rfl, rfl⟩ | ⟨B, cap, rest, rfl, hb, hc1, hc2, hc3⟩
    · rw [hbs] at hk0; simp at hk0
    · rw [hi] at hix
      have hst : keepTo 0 l bs (k0 + 1) = l.take k0 := by
        have h1 : (bs.take k0).any id = false := by
          cases h : (bs.take k0).any id with
          | false => rfl
          | true =>
            exfalso
            have hm : (bs.take k0).any id = true → fidx id bs < (k0 : Int) := fun h => by
              rcases fidx_forms id (bs.take k0) with ⟨h0, _⟩ | ⟨q, hq, e1, e2, _, _⟩
              · rw [h0] at h; cases h
              · have hlt : q < k0 := by rw [List.length_take] at hq; omega
                have : fidx id bs = fidx id (bs.take k0) := by
                  conv => lhs; rw [← List.take_append_drop k0 bs]
                  unfold fidx
                  have gen : ∀ (a b : List Bool) (i : Nat), a.any id = true → fidxFrom id (a ++ b) i = fidxFrom id a i := by
                    intro a
                    induction a with
                    | nil => intro b i h; simp at h
                    | cons x r ih =>
                      intro b i h
                      simp only [List.cons_append, fidxFrom, id]
                      cases x with
                      | true => rfl
                      | false => simp only [Bool.false_eq_true, if_false]; exact ih b (i + 1) (by simpa using h)
                  exact gen _ _ 0 h
                rw [this, e1]; omega
            have := hm h
            rw [hi] at this
            omega
        have hb0 : bs.getD k0 false = true := by
          have := List.find?_some hf0
          rw [List.getD, List.getElem?_eq_getElem hk0]
          simpa using this
        rw [keepTo_succ, hb0, keepTo_first 0 l bs k0 (by omega) h1 (by omega)]
        simp
      have hp2 : ∀ k, k < l.length → ∀ W, Kept w.heap.size (fun b => b = B) w W → Calls Tryz.prog g (#[.int .i64 (l.getD k 0)] ++ lb) W fun e W' => e = .returned (.bool (bs.getD k false)) ∧ Below W.heap.size W W' :=
        fun k hk W hW => hp k hk W (hW.mono (Nat.le_refl _) (fun b _ e => by simp [Value.ownBlock, e]))
      have hlt := hb.lt
      obtain ⟨n, hn⟩ : ∃ n, l.length = n := ⟨_, rfl⟩
      have hk0n : k0 < n := by omega
      have hlk : (keepTo 0 l bs (k0 + 1)).length = k0 := by rw [hst, List.length_take]; omega
      have hcut : keepTo 0 l bs (k0 + 1) ++ l.drop (keepTo 0 l bs (k0 + 1)).length = l := by rw [hlk, hst, List.take_append_drop]
      have hlast : ∀ m, k0 + 1 ≤ m → (keepTo 0 l bs m).length < m := by
        intro m hm
        induction m with
        | zero => omega
        | succ m ih =>
          by_cases h : k0 + 1 ≤ m
          · have := ih h
            rw [keepTo_succ, List.length_append]
            split <;> simp <;> omega
          · obtain rfl : m = k0 := by omega
            rw [hlk]; omega
      have hstep := fun m hm hk hbf => shift_cells 0 valI l bs rest m hm hk hbf
      have hat := fun m hm => shift_at 0 valI l bs rest m hm
      have htot : ∀ m, ((keepTo 0 l bs m ++ l.drop (keepTo 0 l bs m).length).map valI ++ rest).length = (keepTo 0 l bs m).length + (l.length - (keepTo 0 l bs m).length) + rest.length := fun m => by simp; omega
      rw [hn] at hp2 hc1 hc3 hbs hstep hat htot hix ⊢
      unfold maxLen at hc2
      have hkz : ((k0 : Int) == -1) = false := beq_eq_false_iff_ne.2 (by omega)
      have HN := Lib.hid hn
      have HIx := Lib.hid hix
      have HP := Lib.hid hp2
      have HB := Lib.hid hb
      have HSt := Lib.hid hstep
      have HAt := Lib.hid hat
      have HTot := Lib.hid htot
      have HLast := Lib.hid hlast
      have HCut := Lib.hid hcut
      have HLk := Lib.hid hlk
      have HC3 := Lib.hid hc3
      clear hix hp hp2 hr hb hn hstep hat htot hlast hcut hlk hst hi hf0 hk0 hbs hc3
      go_enter Tryz.func171, Tryz.ntmps171
      go_wp2_with (go_at_call 129; (with_reducible refine HIx.out.mono ?_); rintro e W1 ⟨rfl, b1⟩)
      go_loopw [5, 6, 7] (fun i j _ wr => ∃ m : Nat, k0 + 1 ≤ m ∧ m ≤ n ∧ j = .int .i64 m ∧ i = .int .i64 (((keepTo 0 l bs m).length : Nat) : Int) ∧ Blk wr B 3 ((keepTo 0 l bs m ++ l.drop (keepTo 0 l bs m).length).map valI ++ rest) ∧ Kept w.heap.size (fun b => b = B) w wr) (fun _ j _ _ => n - (intOf j).toNat)
      case atStart =>
        refine ⟨k0 + 1, by omega, by omega, by simp, by rw [HLk.out], ?_, Kept.of_below b1⟩
        rw [HCut.out]; exact HB.out.past b1
      case round =>
        obtain ⟨m, hm0, hm, rfl, rfl, hblk, hK⟩ := hrel
        have hl := HLast.out m hm0
        obtain ⟨q, hq⟩ : ∃ q, (keepTo 0 l bs m).length = q := ⟨_, rfl⟩
        by_cases hmn : m < n
        · have c0 : wr.cell? ⟨B, m, none⟩ = some (.int .i64 (l.getD m 0)) := hblk.cell (HAt.out m hmn)
          have hcall := HP.out m hmn wr hK
          have hs := HSt.out m hmn hl
          have hlen := HTot.out m
          have h3 := HC3.out
          obtain ⟨bx, hbx⟩ : ∃ bx, bs.getD m false = bx := ⟨_, rfl⟩
          rw [hbx] at hcall hs
          have hks := keepTo_succ 0 l bs m
          rw [hbx] at hks
          obtain ⟨x, hx⟩ : ∃ x, l.getD m 0 = x := ⟨_, rfl⟩
          rw [hx] at c0 hcall hs hks
          have hq2 : q < m := by rw [← hq]; exact hl
          rw [hq] at hs hlen ⊢
          have lt1 : B < wr.heap.size := hblk.lt
          have HS := Lib.hid hs
          have HKs := Lib.hid hks
          have HBlk := Lib.hid hblk
          have HK := Lib.hid hK
          have HQ := Lib.hid hq
          have HL := Lib.hid hlen
          clear hs hks hblk hK hq hlen hl hbx hx h3
          cases bx
          · go_wp2_with ((with_reducible refine Calls.mono hcall ?_); rintro e W2 ⟨rfl, b2⟩; have hblk2 := HBlk.out.past b2; have d0 : W2.cell? ⟨B, q, none⟩ = some _ := hblk2.cell (List.getElem?_eq_getElem (by rw [HQ.out, HL.out]; omega)); have d1 := hblk2.free q; have lt2 := hblk2.lt)
            go_roundw
            case rel =>
              have hs := HS.out trivial
              have hks := HKs.out
              have hl1 : (keepTo 0 l bs (m + 1)).length = q + 1 := by rw [hks, List.length_append, HQ.out]; rfl
              refine ⟨m + 1, by omega, by omega, by simp, by rw [hl1]; simp, ?_, ?_⟩
              · have h := hblk2.set q (.int .i64 x)
                rw [HQ.out] at h
                have hs2 : _ = _ := hs
                rw [show (.int .i64 x) = valI x from rfl, hs2] at h
                exact h
              · have hsz := HK.out.size
                exact (HK.out.trans ((Kept.of_below b2).mono hsz (fun _ _ h => h))).setCell (p := ⟨B, q, none⟩) (.inl rfl) _
            case measure => simp [intOf]; omega
          · go_wp2_with ((with_reducible refine Calls.mono hcall ?_); rintro e W2 ⟨rfl, b2⟩; have hblk2 := HBlk.out.past b2)
            go_roundw
            case rel =>
              have hks := HKs.out
              simp only [if_true, List.append_nil] at hks
              refine ⟨m + 1, by omega, by omega, by simp, by rw [hks, HQ.out], ?_, ?_⟩
              · rw [hks, HQ.out]; rw [HQ.out] at hblk2; exact hblk2
              · have hsz := HK.out.size
                exact HK.out.trans ((Kept.of_below b2).mono hsz (fun _ _ h => h))
            case measure => simp [intOf]; omega
        · obtain rfl : m = n := by omega
          rw [hq] at hl ⊢
          rw [hq] at hblk
          have hlen := HTot.out m
          have h3 := HC3.out
          rw [hq] at hlen
          obtain ⟨z, hz⟩ : ∃ z, m - q = z + 1 := ⟨m - q - 1, by omega⟩
          have hcl : ∀ ty, (Builtin.clear_ #[43] ty #[.slice (some ⟨B, q, none⟩) (z + 1) (cap - q)]).run Tryz.prog wr = .ok (.tuple #[]) (wr.setCells B q (List.replicate (z + 1) (.int .i64 0))) := fun ty => by
            refine run_clear_I wr ty B q z _ (fun j hj => ?_) (fun j hj => hblk.free _)
            rw [hblk.cell (List.getElem?_eq_getElem (by rw [hlen]; omega))]; rfl
          have hqc : q ≤ cap := by omega
          have hqm : q ≤ m := by omega
          have hne : ¬ (cap = q) := by omega
          have HBlk := Lib.hid hblk
          have HK := Lib.hid hK
          have HQ := Lib.hid hq
          have HLen := Lib.hid hlen
          have hcz : (((q : Int)) == (cap : Int)) = false := beq_eq_false_iff_ne.2 (by omega)
          have hw1 : IntKind.i64.wrap ((m : Int) - (q : Int)) = (m : Int) - (q : Int) := by rw [IntKind.wrap_i64]; omega
          clear hblk hK hq hlen h3
          go_wp2
          go_ret
          have hd : delB 0 l bs = keepTo 0 l bs m := by unfold delB; rw [HN.out]
          refine ⟨.slice (some ⟨B, 0, none⟩) q cap, rfl, ?_, rfl, ?_⟩
          · have h := HBlk.out
            rw [List.map_append, List.append_assoc] at h
            have hq1 : ((keepTo 0 l bs m).map valI).length = q := by rw [List.length_map, HQ.out]
            have h2 := Blk.setCells (List.replicate (z + 1) (.int .i64 0)) ((keepTo 0 l bs m).map valI) ((l.drop q).map valI) rest (by rw [List.append_assoc]; exact h) (by rw [List.length_replicate, List.length_map, List.length_drop, HN.out, hz])
            rw [hq1, List.append_assoc] at h2
            rw [hd, ← HQ.out]
            exact RowI.mk' (by rw [HQ.out]; exact h2) (by rw [HQ.out]; omega) (by unfold maxLen; omega) (by rw [List.length_append, List.length_replicate, HQ.out]; have := HC3.out; omega)
          · exact Kept.setCells (S := fun b => some B = some b) (.inl rfl) _ _ (HK.out.mono (Nat.le_refl _) (fun b _ e => by rw [e]))

theorem zero_P (w : World) : (zeroValue 125).run Tryz.prog w = .ok (.pointer none) w := by kernel_rfl
theorem run_clear_P (w : World) (ty : TypeId) (b o m c : Nat) (hc : ∀ j, j < m + 1 → (w.cell? ⟨b, o + j, none⟩).isSome = true) (hf : ∀ j, j < m + 1 → w.frozen? ⟨b, o + j, none⟩ = false) :
    (Builtin.clear_ #[122] ty #[.slice (some ⟨b, o, none⟩) (m + 1) c]).run Tryz.prog w = .ok (.tuple #[]) (w.setCells b o (List.replicate (m + 1) (.pointer none))) := by
  have hzc : (Builtin.zeroCells (Value.cells (.pointer none)) (m + 1)).toList = List.replicate (m + 1) (.pointer none) := by
    have e : Value.cells (.pointer none) = #[.pointer none] := by kernel_rfl
    rw [e]
    refine List.ext_getElem? fun i => ?_
    simp only [Builtin.zeroCells, List.size_toArray, List.length_cons, List.length_nil, Nat.zero_add, Nat.mul_one, Nat.mod_one, Array.getElem?_toList, Array.getElem?_map, Array.getElem?_range, List.getElem?_replicate]
    split <;> rfl
  have hst := run_storeCells_cells (P := Tryz.prog) b o (List.replicate (m + 1) (.pointer none)) 0 w (by simpa using hc) (by simpa using hf) (by intro v hv'; rw [List.mem_replicate] at hv'; rw [hv'.2]; rfl)
  simp only [Nat.add_zero] at hst
  have hz := fun w => zero_P w
  obtain ⟨z, hz0⟩ : ∃ z, (.pointer none : Value) = z := ⟨_, rfl⟩
  rw [hz0] at hz hzc hst ⊢
  obtain ⟨zs, hzs⟩ : ∃ zs, List.replicate (m + 1) z = zs := ⟨_, rfl⟩
  rw [hzs] at hst hzc ⊢
  simp [Builtin.clear_, run_underlying Tryz.underlying122, hz, hzc, hst]
def valP (x : Nat) : Value := .pointer (some ⟨x, 0, none⟩)
/-- a slice that is owned, or nil -/
def RowP (w : World) (v : Value) (l : List Nat) : Prop := w.ownsRow 0 125 1 v l.length (l.map valP)
theorem RowP.nil (w : World) : RowP w (.slice none 0 0) [] := World.ownsRow_nil _ _ _ _
theorem RowP.past {w w' : World} {v : Value} {l : List Nat} (h : RowP w v l) (hb : Below w.heap.size w w') : RowP w' v l := World.ownsRow.kept h (grownBy_of_below hb) (by cases v.ownBlock <;> simp)
theorem RowP.view {w : World} {v : Value} {l : List Nat} (h : RowP w v l) : (v = .slice none 0 0 ∧ l = []) ∨ ∃ g cap rest, v = .slice (some ⟨g, 0, none⟩) l.length cap ∧ Blk w g 125 (l.map valP ++ rest) ∧ l.length ≤ cap ∧ cap ≤ maxLen ∧ l.length + rest.length = cap := by
  rcases h.2 with ⟨e1, e2⟩ | ⟨g, cap, cur, rfl, _, h3, h4, h5, h6, h7⟩
  · exact .inl ⟨e1, List.length_eq_zero_iff.1 e2⟩
  · rw [Nat.mul_one] at h6 h7
    refine .inr ⟨g, cap, cur.toList.drop l.length, rfl, ?_, h4, h5, ?_⟩
    · unfold Blk
      rw [h3, ← h7, List.take_append_drop]
    · have : cur.toList.length = cap := by simpa using h6
      rw [List.length_drop, this]
      omega
theorem RowP.mk' {w : World} {l : List Nat} {g cap : Nat} {rest : List Value} (hb : Blk w g 125 (l.map valP ++ rest)) (h1 : l.length ≤ cap) (h2 : cap ≤ maxLen) (h3 : l.length + rest.length = cap) : RowP w (.slice (some ⟨g, 0, none⟩) l.length cap) l := by
  refine ⟨by simp, .inr ⟨g, cap, (l.map valP ++ rest).toArray, rfl, Nat.zero_le _, hb, h1, h2, ?_, ?_⟩⟩
  · simp; omega
  · simp
theorem RowP.other {w : World} {v : Value} {l : List Nat} (h : RowP w v l) {b : Nat} {T : TypeId} {xs : List Value} (hb : Blk w b T xs) (hT : T ≠ 125) (j : Nat) (x : Value) : RowP (w.setCell ⟨b, j, none⟩ x) v l := by
  refine ownsRow_setCell_other h (fun e => ?_) _
  obtain ⟨c, fr, hc⟩ := ownRow_cells h _ e
  unfold Blk at hb; rw [hb] at hc; simp at hc; exact hT hc.2.1
theorem RowP.keep {w w' : World} {v : Value} {l : List Nat} (h : RowP w v l) (hk : ∀ b, v.ownBlock = some b → w'.heap[b]? = w.heap[b]?) : RowP w' v l := by
  rcases h.view with ⟨rfl, rfl⟩ | ⟨g, cap, rest, rfl, hb, h1, h2, h3⟩
  · exact RowP.nil _
  · exact RowP.mk' (hb.of_heap (hk g rfl)) h1 h2 h3
theorem RowP.lt' {w : World} {v : Value} {l : List Nat} (h : RowP w v l) : ∀ b, v.ownBlock = some b → b < w.heap.size := by
  rcases h.view with ⟨rfl, rfl⟩ | ⟨g, cap, rest, rfl, hb, h1, h2, h3⟩
  · intro b hb; simp [Value.ownBlock] at hb
  · intro b hb'; simp [Value.ownBlock] at hb'; subst hb'; exact hb.lt
theorem RowP.one {w : World} {v : Value} {l : List Nat} (h : RowP w v l) : v.oneCell' = true := by
  rcases h.view with ⟨rfl, _⟩ | ⟨g, cap, rest, rfl, _⟩ <;> rfl
theorem RowP.cell {w : World} {g n cap : Nat} {l : List Nat} {rest : List Value} (_ : n = cap) (hb : Blk w g 125 (l.map valP ++ rest)) (k : Nat) (hk : k < l.length) : w.cell? ⟨g, k, none⟩ = some (.pointer (some ⟨(l.getD k 0), 0, none⟩)) :=
  hb.cell (by rw [List.getElem?_append_left (by simpa using hk), List.getElem?_map, List.getElem?_eq_getElem hk, List.getD, List.getElem?_eq_getElem hk]; rfl)

set_option maxRecDepth 100000 in
set_option maxHeartbeats 2000000 in
theorem ixP_any (w : World) (v : Value) (l : List Nat) (g : Nat) (lb : Array Value) (bs : List Bool) (hr : RowP w v l) (hbs : bs.length = l.length)
    (eg : ∀ args w, (callFunc g args).run Tryz.prog w = .ok (.enter g args) w)
    (hp : ∀ k, k < l.length → ∀ W, Below w.heap.size w W → Calls Tryz.prog g (#[.pointer (some ⟨(l.getD k 0), 0, none⟩)] ++ lb) W fun e W' => e = .returned (.bool (bs.getD k false)) ∧ Below W.heap.size W W') :
    Calls Tryz.prog 117 #[v, .func (.func g) #[] lb] w
      fun e w' => e = .returned (.int .i64 (fidx id bs)) ∧ Below w.heap.size w w' := by
  rcases hr.view with ⟨rfl, rfl⟩ | ⟨B, cap, rest, rfl, hb, hc1, hc2, hc3⟩
  · obtain rfl : bs = [] := List.length_eq_zero_iff.1 hbs
    clear hp eg hr
    go_enter Tryz.func117, Tryz.ntmps117
    go_wp2
    go_rounds 1
    go_wp2
    go_ret
    exact ⟨rfl, Below.refl _ _⟩
  · have hcell := fun W (hW : Below w.heap.size w W) => RowP.cell (n := 0) rfl (hb.past hW)
    have hlt := hb.lt
    obtain ⟨len, hlen⟩ : ∃ len, l.length = len := ⟨_, rfl⟩
    rw [hlen] at hp hcell hbs hc1 ⊢
    unfold maxLen at hc2
    have HP := Lib.hid hp
    have HC := Lib.hid hcell
    obtain ⟨res, hres⟩ : ∃ res, fidx id bs = res := ⟨_, rfl⟩
    rw [hres]
    have HR := Lib.hid hres
    have HBs := Lib.hid hbs
    clear hlen hp hr hc3 hres hcell hb hbs
    go_enter Tryz.func117, Tryz.ntmps117
    go_wp2
    go_loopw [8] (fun i wr => ∃ k : Nat, k ≤ len ∧ i = .int .i64 k ∧ (bs.take k).any id = false ∧ Below w.heap.size w wr) (fun i _ => len - (intOf i).toNat)
    case atStart => exact ⟨0, by omega, rfl, by simp, Below.refl _ _⟩
    case round =>
      obtain ⟨k, hk, rfl, hno, hB⟩ := hrel
      by_cases hkl : k < len
      · have c0 := HC.out wr hB k hkl
        have hcall := HP.out k hkl wr hB
        have hkb : k < bs.length := by rw [HBs.out]; exact hkl
        have htake : (bs.take (k + 1)).any id = bs.getD k false := by
          rw [List.take_add_one, List.getElem?_eq_getElem hkb, List.any_append, hno, List.getD, List.getElem?_eq_getElem hkb]; simp
        have hany : bs.getD k false = true → res = (k : Int) := fun h => by
          rw [← HR.out]; unfold fidx
          rw [fidxFrom_some id bs 0 k hkb hno (by rw [List.getD, List.getElem?_eq_getElem hkb] at h; exact h), Nat.zero_add]
        obtain ⟨bx, hbx⟩ : ∃ bx, bs.getD k false = bx := ⟨_, rfl⟩
        obtain ⟨x, hx⟩ : ∃ x, l.getD k 0 = x := ⟨_, rfl⟩
        rw [hbx] at hcall htake hany
        rw [hx] at c0 hcall
        have HT := Lib.hid htake
        have HA := Lib.hid hany
        clear htake hany hbx hno hkb hx
        have lt1 : B < wr.heap.size := Nat.lt_of_lt_of_le hlt hB.size
        cases bx
        · go_wp2_with ((with_reducible refine Calls.mono hcall ?_); rintro e W' ⟨rfl, hb2⟩)
          go_roundw
          case rel => exact ⟨k + 1, by omega, by go_num, HT.out, hB.trans (hb2.mono hB.size)⟩
          case measure => simp [intOf]; omega
        · go_wp2_with ((with_reducible refine Calls.mono hcall ?_); rintro e W' ⟨rfl, hb2⟩)
          go_ret
          have hr := HA.out trivial
          exact ⟨by rw [hr]; rfl, hB.trans (hb2.mono hB.size)⟩
      · obtain rfl : k = len := by omega
        have hr : res = -1 := by
          rw [← HR.out]; unfold fidx
          rw [← HBs.out, List.take_length] at hno
          exact fidxFrom_none id bs 0 hno
        clear hno
        go_wp2
        go_ret
        exact ⟨by rw [hr]; rfl, hB⟩

set_option maxRecDepth 100000 in
set_option maxHeartbeats 4000000 in
theorem delP_any (w : World) (v : Value) (l : List Nat) (g : Nat) (lb : Array Value) (bs : List Bool) (hr : RowP w v l) (hbs : bs.length = l.length)
    (eg : ∀ args w, (callFunc g args).run Tryz.prog w = .ok (.enter g args) w)
    (hp : ∀ k, k < l.length → ∀ W, Kept w.heap.size (fun b => v.ownBlock = some b) w W → Calls Tryz.prog g (#[.pointer (some ⟨(l.getD k 0), 0, none⟩)] ++ lb) W fun e W' => e = .returned (.bool (bs.getD k false)) ∧ Below W.heap.size W W') :
    Calls Tryz.prog 173 #[v, .func (.func g) #[] lb] w
      fun e w' => ∃ v', e = .returned v' ∧ RowP w' v' (delB 0 l bs) ∧ v'.ownBlock = v.ownBlock ∧ Kept w.heap.size (fun b => v.ownBlock = some b) w w' := by
  have hix := ixP_any w v l g lb bs hr hbs eg (fun k hk W hW => hp k hk W (Kept.of_below hW))
  rcases fidx_forms id bs with ⟨ha, hi, _, _⟩ | ⟨k0, hk0, hi, hf0, _, _⟩
  · rw [hi] at hix
    rw [delB_all 0 l bs hbs ha]
    have HI := Lib.hid hix
    have HR := Lib.hid hr
    clear hix hr hp hbs ha hi eg
    go_enter Tryz.func173, Tryz.ntmps173
    go_wp2_with (go_at_call 117; (with_reducible refine HI.out.mono ?_); rintro e W1 ⟨rfl, b1⟩)
    go_ret
    exact ⟨v, rfl, HR.out.past b1, rfl, Kept.of_below b1⟩
  · rcases hr.view with ⟨rfl, rfl⟩ | ⟨B, cap, rest, rfl, hb, hc1, hc2, hc3⟩
    · rw [hbs] at hk0; simp at hk0
    · rw [hi] at hix
      have hst : keepTo 0 l bs (k0 + 1) = l.take k0 := by
        have h1 : (bs.take k0).any id = false := by
          cases h : (bs.take k0).any id with
          | false => rfl
          | true =>
            exfalso
            have hm : (bs.take k0).any id = true → fidx id bs < (k0 : Int) := fun h => by
              rcases fidx_forms id (bs.take k0) with ⟨h0, _⟩ | ⟨q, hq, e1, e2, _, _⟩
              · rw [h0] at h; cases h
              · have hlt : q < k0 := by rw [List.length_take] at hq; omega
                have : fidx id bs = fidx id (bs.take k0) := by
                  conv => lhs; rw [← List.take_append_drop k0 bs]
                  unfold fidx
                  have gen : ∀ (a b : List Bool) (i : Nat), a.any id = true → fidxFrom id (a ++ b) i = fidxFrom id a i := by
                    intro a
                    induction a with
                    | nil => intro b i h; simp at h
                    | cons x r ih =>
                      intro b i h
                      simp only [List.cons_append, fidxFrom, id]
                      cases x with
                      | true => rfl
                      | false => simp only [Bool.false_eq_true, if_false]; exact ih b (i + 1) (by simpa using h)
                  exact gen _ _ 0 h
                rw [this, e1]; omega
            have := hm h
            rw [hi] at this
            omega
        have hb0 : bs.getD k0 false = true := by
          have := List.find?_some hf0
          rw [List.getD, List.getElem?_eq_getElem hk0]
          simpa using this
        rw [keepTo_succ, hb0, keepTo_first 0 l bs k0 (by omega) h1 (by omega)]
        simp
      have hp2 : ∀ k, k < l.length → ∀ W, Kept w.heap.size (fun b => b = B) w W → Calls Tryz.prog g (#[.pointer (some ⟨(l.getD k 0), 0, none⟩)] ++ lb) W fun e W' => e = .returned (.bool (bs.getD k false)) ∧ Below W.heap.size W W' :=
        fun k hk W hW => hp k hk W (hW.mono (Nat.le_refl _) (fun b _ e => by simp [Value.ownBlock, e]))
      have hlt := hb.lt
      obtain ⟨n, hn⟩ : ∃ n, l.length = n := ⟨_, rfl⟩
      have hk0n : k0 < n := by omega
      have hlk : (keepTo 0 l bs (k0 + 1)).length = k0 := by rw [hst, List.length_take]; omega
      have hcut : keepTo 0 l bs (k0 + 1) ++ l.drop (keepTo 0 l bs (k0 + 1)).length = l := by rw [hlk, hst, List.take_append_drop]
      have hlast : ∀ m, k0 + 1 ≤ m → (keepTo 0 l bs m).length < m := by
        intro m hm
        induction m with
        | zero => omega
        | succ m ih =>
          by_cases h : k0 + 1 ≤ m
          · have := ih h
            rw [keepTo_succ, List.length_append]
            split <;> simp <;> omega
          · obtain rfl : m = k0 := by omega
            rw [hlk]; omega
      have hstep := fun m hm hk hbf => shift_cells 0 valP l bs rest m hm hk hbf
      have hat := fun m hm => shift_at 0 valP l bs rest m hm
      have htot : ∀ m, ((keepTo 0 l bs m ++ l.drop (keepTo 0 l bs m).length).map valP ++ rest).length = (keepTo 0 l bs m).length + (l.length - (keepTo 0 l bs m).length) + rest.length := fun m => by simp; omega
      rw [hn] at hp2 hc1 hc3 hbs hstep hat htot hix ⊢
      unfold maxLen at hc2
      have hkz : ((k0 : Int) == -1) = false := beq_eq_false_iff_ne.2 (by omega)
      have HN := Lib.hid hn
      have HIx := Lib.hid hix
      have HP := Lib.hid hp2
      have HB := Lib.hid hb
      have HSt := Lib.hid hstep
      have HAt := Lib.hid hat
      have HTot := Lib.hid htot
      have HLast := Lib.hid hlast
      have HCut := Lib.hid hcut
      have HLk := Lib.hid hlk
      have HC3 := Lib.hid hc3
      clear hix hp hp2 hr hb hn hstep hat htot hlast hcut hlk hst hi hf0 hk0 hbs hc3
      go_enter Tryz.func173, Tryz.ntmps173
      go_wp2_with (go_at_call 117; (with_reducible refine HIx.out.mono ?_); rintro e W1 ⟨rfl, b1⟩)
      go_loopw [5, 6, 7] (fun i j _ wr => ∃ m : Nat, k0 + 1 ≤ m ∧ m ≤ n ∧ j = .int .i64 m ∧ i = .int .i64 (((keepTo 0 l bs m).length : Nat) : Int) ∧ Blk wr B 125 ((keepTo 0 l bs m ++ l.drop (keepTo 0 l bs m).length).map valP ++ rest) ∧ Kept w.heap.size (fun b => b = B) w wr) (fun _ j _ _ => n - (intOf j).toNat)
      case atStart =>
        refine ⟨k0 + 1, by omega, by omega, by simp, by rw [HLk.out], ?_, Kept.of_below b1⟩
        rw [HCut.out]; exact HB.out.past b1
      case round =>
        obtain ⟨m, hm0, hm, rfl, rfl, hblk, hK⟩ := hrel
        have hl := HLast.out m hm0
        obtain ⟨q, hq⟩ : ∃ q, (keepTo 0 l bs m).length = q := ⟨_, rfl⟩
        by_cases hmn : m < n
        · have c0 : wr.cell? ⟨B, m, none⟩ = some (.pointer (some ⟨(l.getD m 0), 0, none⟩)) := hblk.cell (HAt.out m hmn)
          have hcall := HP.out m hmn wr hK
          have hs := HSt.out m hmn hl
          have hlen := HTot.out m
          have h3 := HC3.out
          obtain ⟨bx, hbx⟩ : ∃ bx, bs.getD m false = bx := ⟨_, rfl⟩
          rw [hbx] at hcall hs
          have hks := keepTo_succ 0 l bs m
          rw [hbx] at hks
          obtain ⟨x, hx⟩ : ∃ x, l.getD m 0 = x := ⟨_, rfl⟩
          rw [hx] at c0 hcall hs hks
          have hq2 : q < m := by rw [← hq]; exact hl
          rw [hq] at hs hlen ⊢
          have lt1 : B < wr.heap.size := hblk.lt
          have HS := Lib.hid hs
          have HKs := Lib.hid hks
          have HBlk := Lib.hid hblk
          have HK := Lib.hid hK
          have HQ := Lib.hid hq
          have HL := Lib.hid hlen
          clear hs hks hblk hK hq hlen hl hbx hx h3
          cases bx
          · go_wp2_with ((with_reducible refine Calls.mono hcall ?_); rintro e W2 ⟨rfl, b2⟩; have hblk2 := HBlk.out.past b2; have d0 : W2.cell? ⟨B, q, none⟩ = some _ := hblk2.cell (List.getElem?_eq_getElem (by rw [HQ.out, HL.out]; omega)); have d1 := hblk2.free q; have lt2 := hblk2.lt)
            go_roundw
            case rel =>
              have hs := HS.out trivial
              have hks := HKs.out
              have hl1 : (keepTo 0 l bs (m + 1)).length = q + 1 := by rw [hks, List.length_append, HQ.out]; rfl
              refine ⟨m + 1, by omega, by omega, by simp, by rw [hl1]; simp, ?_, ?_⟩
              · have h := hblk2.set q (.pointer (some ⟨x, 0, none⟩))
                rw [HQ.out] at h
                have hs2 : _ = _ := hs
                rw [show (.pointer (some ⟨x, 0, none⟩)) = valP x from rfl, hs2] at h
                exact h
              · have hsz := HK.out.size
                exact (HK.out.trans ((Kept.of_below b2).mono hsz (fun _ _ h => h))).setCell (p := ⟨B, q, none⟩) (.inl rfl) _
            case measure => simp [intOf]; omega
          · go_wp2_with ((with_reducible refine Calls.mono hcall ?_); rintro e W2 ⟨rfl, b2⟩; have hblk2 := HBlk.out.past b2)
            go_roundw
            case rel =>
              have hks := HKs.out
              simp only [if_true, List.append_nil] at hks
              refine ⟨m + 1, by omega, by omega, by simp, by rw [hks, HQ.out], ?_, ?_⟩
              · rw [hks, HQ.out]; rw [HQ.out] at hblk2; exact hblk2
              · have hsz := HK.out.size
                exact HK.out.trans ((Kept.of_below b2).mono hsz (fun _ _ h => h))
            case measure => simp [intOf]; omega
        · obtain rfl : m = n := by omega
          rw [hq] at hl ⊢
          rw [hq] at hblk
          have hlen := HTot.out m
          have h3 := HC3.out
          rw [hq] at hlen
          obtain ⟨z, hz⟩ : ∃ z, m - q = z + 1 := ⟨m - q - 1, by omega⟩
          have hcl : ∀ ty, (Builtin.clear_ #[122] ty #[.slice (some ⟨B, q, none⟩) (z + 1) (cap - q)]).run Tryz.prog wr = .ok (.tuple #[]) (wr.setCells B q (List.replicate (z + 1) (.pointer none))) := fun ty => by
            refine run_clear_P wr ty B q z _ (fun j hj => ?_) (fun j hj => hblk.free _)
            rw [hblk.cell (List.getElem?_eq_getElem (by rw [hlen]; omega))]; rfl
          have hqc : q ≤ cap := by omega
          have hqm : q ≤ m := by omega
          have hne : ¬ (cap = q) := by omega
          have HBlk := Lib.hid hblk
          have HK := Lib.hid hK
          have HQ := Lib.hid hq
          have HLen := Lib.hid hlen
          have hcz : (((q : Int)) == (cap : Int)) = false := beq_eq_false_iff_ne.2 (by omega)
          have hw1 : IntKind.i64.wrap ((m : Int) - (q : Int)) = (m : Int) - (q : Int) := by rw [IntKind.wrap_i64]; omega
          clear hblk hK hq hlen h3
          go_wp2
          go_ret
          have hd : delB 0 l bs = keepTo 0 l bs m := by unfold delB; rw [HN.out]
          refine ⟨.slice (some ⟨B, 0, none⟩) q cap, rfl, ?_, rfl, ?_⟩
          · have h := HBlk.out
            rw [List.map_append, List.append_assoc] at h
            have hq1 : ((keepTo 0 l bs m).map valP).length = q := by rw [List.length_map, HQ.out]
            have h2 := Blk.setCells (List.replicate (z + 1) (.pointer none)) ((keepTo 0 l bs m).map valP) ((l.drop q).map valP) rest (by rw [List.append_assoc]; exact h) (by rw [List.length_replicate, List.length_map, List.length_drop, HN.out, hz])
            rw [hq1, List.append_assoc] at h2
            rw [hd, ← HQ.out]
            exact RowP.mk' (by rw [HQ.out]; exact h2) (by rw [HQ.out]; omega) (by unfold maxLen; omega) (by rw [List.length_append, List.length_replicate, HQ.out]; have := HC3.out; omega)
          · exact Kept.setCells (S := fun b => some B = some b) (.inl rfl) _ _ (HK.out.mono (Nat.le_refl _) (fun b _ e => by rw [e]))
end Go.Proofs.YtglohconhbcchaaGreatDoor

namespace Go.Proofs.YtglohconhbcchaaGreatDoor
open Go.RowKit Go.Shelf

def fillM (mem : List Nat) (f : Nat) (ws : List Nat) : List Nat := (((((((mem.set (f * 8) (ws.getD 0 0)).set (f * 8 + 1) (ws.getD 1 0)).set (f * 8 + 2) (ws.getD 2 0)).set (f * 8 + 3) (ws.getD 3 0)).set (f * 8 + 4) (ws.getD 4 0)).set (f * 8 + 5) (ws.getD 5 0)).set (f * 8 + 6) (ws.getD 6 0)).set (f * 8 + 7) (ws.getD 7 0)
theorem fillM_len (mem : List Nat) (f : Nat) (ws : List Nat) : (fillM mem f ws).length = mem.length := by unfold fillM; simp
theorem set_bd {mem : List Nat} {i x : Nat} (h : ∀ v, v ∈ mem → v < 2 ^ 64) (hx : x < 2 ^ 64) : ∀ v, v ∈ mem.set i x → v < 2 ^ 64 := fun v hv => by
  rcases List.mem_or_eq_of_mem_set hv with e | e
  · exact h v e
  · subst e; exact hx
theorem fillM_bd {mem : List Nat} {f : Nat} {ws : List Nat} (h : ∀ v, v ∈ mem → v < 2 ^ 64) (hw : ∀ x, x ∈ ws → x < 2 ^ 64) (hl : ws.length = 8) : ∀ v, v ∈ fillM mem f ws → v < 2 ^ 64 := by
  have g : ∀ j, j < 8 → ws.getD j 0 < 2 ^ 64 := fun j hj => by
    rw [List.getD, List.getElem?_eq_getElem (by omega)]; exact hw _ (List.getElem_mem _)
  unfold fillM
  exact set_bd (set_bd (set_bd (set_bd (set_bd (set_bd (set_bd (set_bd h (g 0 (by omega))) (g 1 (by omega))) (g 2 (by omega))) (g 3 (by omega))) (g 4 (by omega))) (g 5 (by omega))) (g 6 (by omega))) (g 7 (by omega))
theorem word0_any (w : World) (fp fb n : Nat) (mem : List Nat) (H : Host w fp fb n mem) (f : Nat) (hf : f < n) :
    Calls Tryz.prog 83 #[.pointer (some ⟨fp, 0, none⟩), .int .i64 (f : Int), .int .i64 0] w fun e w' => e = .returned (.pointer (some ⟨fb, f * 8, none⟩)) ∧ w = w' := by
  have c0 := H.hdr.cell (k := 0) rfl
  have hsm := H.small
  have hfz : (f : Int) < (n : Int) := by omega
  clear H
  go_enter Tryz.func83, Tryz.ntmps83
  go_wp2
  go_ret
  exact ⟨rfl, rfl⟩
theorem arr8 (b off c : Nat) (W : World) : (Instr.arrayAt 247 (.slice (some ⟨b, off, none⟩) 8 c)).run Tryz.prog W = .ok (.pointer (some ⟨b, off, none⟩)) W := by kernel_rfl
set_option maxRecDepth 100000 in
set_option maxHeartbeats 2000000 in
theorem fill8_any (w : World) (fp fb n : Nat) (mem : List Nat) (H : Host w fp fb n mem) (f b off c : Nat) (x0 x1 x2 x3 x4 x5 x6 x7 : Nat) (hf : f < n) (hb : b ≠ fb)
    (hc : ∀ (j v : Nat), [x0, x1, x2, x3, x4, x5, x6, x7][j]? = some v → w.cell? ⟨b, off + j, none⟩ = some (.int .u64 (v : Int))) (hbd : ∀ x, x ∈ [x0, x1, x2, x3, x4, x5, x6, x7] → x < 2 ^ 64) :
    Calls Tryz.prog 81 #[.pointer (some ⟨fp, 0, none⟩), .int .i64 (f : Int), .slice (some ⟨b, off, none⟩) 8 c] w
      fun e w' => e = .returned (.bool true) ∧ Host w' fp fb n (fillM mem f [x0, x1, x2, x3, x4, x5, x6, x7]) ∧ Kept w.heap.size (fun k => k = fb) w w' := by
  have c0 := H.hdr.cell (k := 0) rfl
  have hsm := H.small
  have d0 := hc 0 x0 rfl
  have d1 := hc 1 x1 rfl
  have d2 := hc 2 x2 rfl
  have d3 := hc 3 x3 rfl
  have d4 := hc 4 x4 rfl
  have d5 := hc 5 x5 rfl
  have d6 := hc 6 x6 rfl
  have d7 := hc 7 x7 rfl
  rw [Nat.add_zero] at d0
  have hcell : ∀ j, j < 8 → w.cell? ⟨fb, f * 8 + j, none⟩ = some (.int .u64 ((mem.getD (f * 8 + j) 0 : Nat) : Int)) := fun j hj => H.row.cell (by
    have : f * 8 + j < mem.length := by have := H.len; omega
    simp [List.getElem?_eq_getElem this, u64, List.getD])
  have m0 := hcell 0 (by omega)
  have m1 := hcell 1 (by omega)
  have m2 := hcell 2 (by omega)
  have m3 := hcell 3 (by omega)
  have m4 := hcell 4 (by omega)
  have m5 := hcell 5 (by omega)
  have m6 := hcell 6 (by omega)
  have m7 := hcell 7 (by omega)
  rw [Nat.add_zero] at m0
  have hfz : (f : Int) < (n : Int) := by omega
  have lf := H.row.lt
  have fr := fun j => H.row.free j
  have HH := Lib.hid H
  have hne : fp ≠ fb := H.hdr.ne H.row (by decide)
  have hne' := Ne.symm hne
  have hb' := Ne.symm hb
  have lfp := H.hdr.lt
  have harr := fun W => arr8 b off c W
  have hwd := word0_any w fp fb n mem H f hf
  have HWd := Lib.hid hwd
  have HBd := Lib.hid hbd
  obtain ⟨o0, ho0⟩ : ∃ z : Int, ((mem.getD (f * 8) 0 : Nat) : Int) = z := ⟨_, rfl⟩
  rw [ho0] at m0
  clear ho0
  obtain ⟨o1, ho1⟩ : ∃ z : Int, ((mem.getD (f * 8 + 1) 0 : Nat) : Int) = z := ⟨_, rfl⟩
  rw [ho1] at m1
  clear ho1
  obtain ⟨o2, ho2⟩ : ∃ z : Int, ((mem.getD (f * 8 + 2) 0 : Nat) : Int) = z := ⟨_, rfl⟩
  rw [ho2] at m2
  clear ho2
  obtain ⟨o3, ho3⟩ : ∃ z : Int, ((mem.getD (f * 8 + 3) 0 : Nat) : Int) = z := ⟨_, rfl⟩
  rw [ho3] at m3
  clear ho3
  obtain ⟨o4, ho4⟩ : ∃ z : Int, ((mem.getD (f * 8 + 4) 0 : Nat) : Int) = z := ⟨_, rfl⟩
  rw [ho4] at m4
  clear ho4
  obtain ⟨o5, ho5⟩ : ∃ z : Int, ((mem.getD (f * 8 + 5) 0 : Nat) : Int) = z := ⟨_, rfl⟩
  rw [ho5] at m5
  clear ho5
  obtain ⟨o6, ho6⟩ : ∃ z : Int, ((mem.getD (f * 8 + 6) 0 : Nat) : Int) = z := ⟨_, rfl⟩
  rw [ho6] at m6
  clear ho6
  obtain ⟨o7, ho7⟩ : ∃ z : Int, ((mem.getD (f * 8 + 7) 0 : Nat) : Int) = z := ⟨_, rfl⟩
  rw [ho7] at m7
  clear ho7
  clear hc H hbd hwd hcell
  go_enter Tryz.func81, Tryz.ntmps81
  go_wp2_with (go_at_call 83; (with_reducible refine HWd.out.mono ?_); rintro e w' ⟨rfl, rfl⟩)
  go_region_held3 (fun w' => w'.cell? ⟨fp, 0, none⟩ = some (.slice (some ⟨fb, 0, none⟩) n n) ∧ w'.cell? ⟨b, off, none⟩ = some (.int .u64 (x0 : Int)) ∧ w'.cell? ⟨b, off + 1, none⟩ = some (.int .u64 (x1 : Int)) ∧ w'.cell? ⟨b, off + 2, none⟩ = some (.int .u64 (x2 : Int)) ∧ w'.cell? ⟨b, off + 3, none⟩ = some (.int .u64 (x3 : Int)) ∧ w'.cell? ⟨b, off + 4, none⟩ = some (.int .u64 (x4 : Int)) ∧ w'.cell? ⟨b, off + 5, none⟩ = some (.int .u64 (x5 : Int)) ∧ w'.cell? ⟨b, off + 6, none⟩ = some (.int .u64 (x6 : Int)) ∧ w'.cell? ⟨b, off + 7, none⟩ = some (.int .u64 (x7 : Int))) (go_keep) (fail)
  all_goals go_wp2
  all_goals go_ret
  have e : (fillM mem f [x0, x1, x2, x3, x4, x5, x6, x7]).map u64 = (((((((((mem.map u64).set (f * 8) (.int .u64 (x0 : Int))).set (f * 8 + 1) (.int .u64 (x1 : Int))).set (f * 8 + 2) (.int .u64 (x2 : Int))).set (f * 8 + 3) (.int .u64 (x3 : Int))).set (f * 8 + 4) (.int .u64 (x4 : Int))).set (f * 8 + 5) (.int .u64 (x5 : Int))).set (f * 8 + 6) (.int .u64 (x6 : Int))).set (f * 8 + 7) (.int .u64 (x7 : Int))) := by
    unfold fillM; simp only [List.map_set]; rfl
  have R := ((((((((HH.out.row.set (f * 8) (.int .u64 (x0 : Int))).set (f * 8 + 1) (.int .u64 (x1 : Int))).set (f * 8 + 2) (.int .u64 (x2 : Int))).set (f * 8 + 3) (.int .u64 (x3 : Int))).set (f * 8 + 4) (.int .u64 (x4 : Int))).set (f * 8 + 5) (.int .u64 (x5 : Int))).set (f * 8 + 6) (.int .u64 (x6 : Int))).set (f * 8 + 7) (.int .u64 (x7 : Int)))
  rw [← e] at R
  exact ⟨rfl, ⟨(((((((((HH.out.hdr.other (a := ⟨fb, f * 8, none⟩) hne (.int .u64 (x0 : Int))).other (a := ⟨fb, f * 8 + 1, none⟩) hne (.int .u64 (x1 : Int))).other (a := ⟨fb, f * 8 + 2, none⟩) hne (.int .u64 (x2 : Int))).other (a := ⟨fb, f * 8 + 3, none⟩) hne (.int .u64 (x3 : Int))).other (a := ⟨fb, f * 8 + 4, none⟩) hne (.int .u64 (x4 : Int))).other (a := ⟨fb, f * 8 + 5, none⟩) hne (.int .u64 (x5 : Int))).other (a := ⟨fb, f * 8 + 6, none⟩) hne (.int .u64 (x6 : Int))).other (a := ⟨fb, f * 8 + 7, none⟩) hne (.int .u64 (x7 : Int)))).drew, R.drew, by rw [fillM_len, HH.out.len], HH.out.small, fillM_bd HH.out.bd HBd.out rfl⟩, ((((((((((Kept.refl w.heap.size (fun k => k = fb) w).setCell (p := ⟨fb, f * 8, none⟩) (.inl rfl) (.int .u64 (x0 : Int))).setCell (p := ⟨fb, f * 8 + 1, none⟩) (.inl rfl) (.int .u64 (x1 : Int))).setCell (p := ⟨fb, f * 8 + 2, none⟩) (.inl rfl) (.int .u64 (x2 : Int))).setCell (p := ⟨fb, f * 8 + 3, none⟩) (.inl rfl) (.int .u64 (x3 : Int))).setCell (p := ⟨fb, f * 8 + 4, none⟩) (.inl rfl) (.int .u64 (x4 : Int))).setCell (p := ⟨fb, f * 8 + 5, none⟩) (.inl rfl) (.int .u64 (x5 : Int))).setCell (p := ⟨fb, f * 8 + 6, none⟩) (.inl rfl) (.int .u64 (x6 : Int))).setCell (p := ⟨fb, f * 8 + 7, none⟩) (.inl rfl) (.int .u64 (x7 : Int)))).drewN 1⟩
theorem fillM_get {mem : List Nat} {f : Nat} (ws : List Nat) (hm : f * 8 + 8 ≤ mem.length) (i : Nat) : (fillM mem f ws)[i]? = if f * 8 ≤ i ∧ i < f * 8 + 8 then some (ws.getD (i - f * 8) 0) else mem[i]? := by
  have l0 : f * 8 < mem.length := by omega
  have l1 : f * 8 + 1 < mem.length := by omega
  have l2 : f * 8 + 2 < mem.length := by omega
  have l3 : f * 8 + 3 < mem.length := by omega
  have l4 : f * 8 + 4 < mem.length := by omega
  have l5 : f * 8 + 5 < mem.length := by omega
  have l6 : f * 8 + 6 < mem.length := by omega
  have l7 : f * 8 + 7 < mem.length := by omega
  unfold fillM
  obtain ⟨q, hq⟩ : ∃ q, f * 8 = q := ⟨_, rfl⟩
  rw [hq] at l0 l1 l2 l3 l4 l5 l6 l7 hm ⊢
  by_cases h : q ≤ i ∧ i < q + 8
  · rw [if_pos h]
    rcases (show i = q ∨ i = q + 1 ∨ i = q + 2 ∨ i = q + 3 ∨ i = q + 4 ∨ i = q + 5 ∨ i = q + 6 ∨ i = q + 7 by omega) with rfl | rfl | rfl | rfl | rfl | rfl | rfl | rfl
    all_goals simp [l0, l1, l2, l3, l4, l5, l6, l7, Nat.add_sub_cancel_left]
  · rw [if_neg h]
    rw [List.getElem?_set_ne (by omega), List.getElem?_set_ne (by omega), List.getElem?_set_ne (by omega), List.getElem?_set_ne (by omega), List.getElem?_set_ne (by omega), List.getElem?_set_ne (by omega), List.getElem?_set_ne (by omega), List.getElem?_set_ne (by omega)]
end Go.Proofs.YtglohconhbcchaaGreatDoor

namespace Go.Proofs.YtglohconhbcchaaGreatDoor
open Go.RowKit

/-- a thing: the blocks that it leans on, and what is so of it -/
structure Thing where
  own : Nat → Prop
  so : World → Prop
  lt : ∀ w, so w → ∀ b, own b → b < w.heap.size
  keep : ∀ w w', so w → w.heap.size ≤ w'.heap.size → (∀ b, own b → w'.heap[b]? = w.heap[b]?) → so w'
/-- things, all made since w0, apart from one another -/
structure Hold (w0 w : World) (ts : List Thing) : Prop where
  b : Below w0.heap.size w0 w
  so : ∀ t, t ∈ ts → t.so w
  up : ∀ t, t ∈ ts → ∀ b, t.own b → w0.heap.size ≤ b
  apart : ts.Pairwise fun s t => ∀ b, s.own b → t.own b → False
theorem Hold.size {w0 w : World} {ts : List Thing} (h : Hold w0 w ts) : w0.heap.size ≤ w.heap.size := h.b.size
theorem Hold.nil (w0 : World) : Hold w0 w0 [] := ⟨Below.refl _ _, fun _ h => (List.not_mem_nil h).elim, fun _ h => (List.not_mem_nil h).elim, List.Pairwise.nil⟩
theorem Hold.past {w0 w w' : World} {ts : List Thing} (h : Hold w0 w ts) (hb : Below w.heap.size w w') : Hold w0 w' ts :=
  ⟨h.b.trans (hb.mono h.size), fun t ht => t.keep w w' (h.so t ht) hb.size (fun b hb' => hb.block b (t.lt w (h.so t ht) b hb')), h.up, h.apart⟩
theorem Hold.drew {w0 w : World} {ts : List Thing} (h : Hold w0 w ts) : Hold w0 w.drew ts := h.past (Below.refl _ w).drew
theorem Hold.add {w0 w w' : World} {ts : List Thing} (h : Hold w0 w ts) (hb : Below w.heap.size w w') (t : Thing) (hs : t.so w') (hn : ∀ b, t.own b → w.heap.size ≤ b) : Hold w0 w' (t :: ts) := by
  have h' := h.past hb
  refine ⟨h'.b, fun s hm => ?_, fun s hm b hb' => ?_, List.pairwise_cons.2 ⟨fun s hm b h1 h2 => ?_, h.apart⟩⟩
  · rcases List.mem_cons.1 hm with e | e
    · subst e; exact hs
    · exact h'.so s e
  · rcases List.mem_cons.1 hm with e | e
    · subst e; exact Nat.le_trans h.size (hn b hb')
    · exact h.up s e b hb'
  · have := hn b h1
    have := s.lt w (h.so s hm) b h2
    omega
theorem getElem?_mem' {α : Type} {l : List α} {i : Nat} {a : α} (h : l[i]? = some a) : a ∈ l := List.mem_of_getElem? h
theorem Hold.at {w0 w : World} {ts : List Thing} (h : Hold w0 w ts) (i : Nat) {t : Thing} (hi : ts[i]? = some t) : t.so w := h.so t (List.mem_of_getElem? hi)
theorem Hold.lo {w0 w : World} {ts : List Thing} (h : Hold w0 w ts) (i : Nat) {t : Thing} (hi : ts[i]? = some t) : ∀ b, t.own b → w0.heap.size ≤ b := h.up t (List.mem_of_getElem? hi)
theorem apart_ne {ts : List Thing} (h : ts.Pairwise fun s t => ∀ b, s.own b → t.own b → False) {i j : Nat} {s t : Thing} (hi : ts[i]? = some s) (hj : ts[j]? = some t) (hij : i ≠ j) : ∀ b, s.own b → t.own b → False := by
  rw [List.pairwise_iff_getElem] at h
  obtain ⟨li, ei⟩ := List.getElem?_eq_some_iff.1 hi
  obtain ⟨lj, ej⟩ := List.getElem?_eq_some_iff.1 hj
  intro b hs ht
  rcases Nat.lt_or_gt_of_ne hij with hlt | hlt
  · exact h i j li lj hlt b (by rw [ei]; exact hs) (by rw [ej]; exact ht)
  · exact h j i lj li hlt b (by rw [ej]; exact ht) (by rw [ei]; exact hs)
theorem Hold.apart_of {w0 w : World} {ts : List Thing} (h : Hold w0 w ts) {i j : Nat} {s t : Thing} (hi : ts[i]? = some s) (hj : ts[j]? = some t) (hij : i ≠ j) : ∀ b, s.own b → t.own b → False := apart_ne h.apart hi hj hij
theorem set_mem {ts : List Thing} {i : Nat} {t' s : Thing} (hm : s ∈ ts.set i t') : s = t' ∨ ∃ j, j ≠ i ∧ ts[j]? = some s := by
  obtain ⟨j, hj, e⟩ := List.getElem_of_mem hm
  by_cases h : i = j
  · subst h; left; rw [← e, List.getElem_set_self]
  · right
    refine ⟨j, fun e => h e.symm, ?_⟩
    rw [List.getElem_set_ne h] at e
    have hj' : j < ts.length := by simpa using hj
    rw [List.getElem?_eq_getElem hj', e]
/-- what a call leaves that turns blocks of one thing alone -/
theorem Hold.step {w0 w w' : World} {ts : List Thing} (h : Hold w0 w ts) (i : Nat) {t : Thing} (t' : Thing) (hi : ts[i]? = some t) (hs : t'.so w') (K : Kept w.heap.size t.own w w') (ho : ∀ b, t'.own b → t.own b ∨ w.heap.size ≤ b) : Hold w0 w' (ts.set i t') := by
  have hbt : Below w0.heap.size w0 w' := h.b.trans ((K.mono h.size (fun _ _ x => x)).below (fun b hb hS => by have := h.lo i hi b hS; omega))
  refine ⟨hbt, fun s hm => ?_, fun s hm b hb => ?_, ?_⟩
  · rcases set_mem hm with e | ⟨j, hj, e⟩
    · subst e; exact hs
    · exact s.keep w w' (h.at j e) K.size (fun b hb => K.block b (s.lt w (h.at j e) b hb) (fun hS => h.apart_of e hi hj b hb hS))
  · rcases set_mem hm with e | ⟨j, hj, e⟩
    · subst e
      rcases ho b hb with x | x
      · exact h.lo i hi b x
      · exact Nat.le_trans h.size x
    · exact h.lo j e b hb
  · rw [List.pairwise_iff_getElem]
    intro a c ha hc hac b h1 h2
    have key : ∀ j (hj : j < ts.length), j ≠ i → ∀ b, t'.own b → ts[j].own b → False := fun j hj hji b hb1 hb2 => by
      have e : ts[j]? = some ts[j] := List.getElem?_eq_getElem hj
      rcases ho b hb1 with x | x
      · exact h.apart_of e hi hji b hb2 x
      · have := ts[j].lt w (h.at j e) b hb2; omega
    have ha' : a < ts.length := by simpa using ha
    have hc' : c < ts.length := by simpa using hc
    by_cases hai : i = a
    · subst hai
      rw [List.getElem_set_self] at h1
      rw [List.getElem_set_ne (by omega)] at h2
      exact key c hc' (by omega) b h1 h2
    · rw [List.getElem_set_ne hai] at h1
      by_cases hci : i = c
      · subst hci
        rw [List.getElem_set_self] at h2
        exact key a ha' (by omega) b h2 h1
      · rw [List.getElem_set_ne hci] at h2
        exact h.apart_of (List.getElem?_eq_getElem ha') (List.getElem?_eq_getElem hc') (by omega) b h1 h2
theorem Hold.weak {w0 w : World} {ts : List Thing} (h : Hold w0 w ts) (i : Nat) {t : Thing} (t' : Thing) (hi : ts[i]? = some t) (hs : t'.so w) (ho : ∀ b, t'.own b → t.own b) : Hold w0 w (ts.set i t') :=
  h.step i t' hi hs (Kept.refl _ _ _) (fun b hb => .inl (ho b hb))
theorem Hold.sub {w0 w : World} {ts us : List Thing} (h : Hold w0 w ts) (hs : us.Sublist ts) : Hold w0 w us :=
  ⟨h.b, fun t ht => h.so t (hs.subset ht), fun t ht => h.up t (hs.subset ht), h.apart.sublist hs⟩
theorem Hold.perm {w0 w : World} {ts us : List Thing} (h : Hold w0 w ts) (hp : us.Perm ts) : Hold w0 w us :=
  ⟨h.b, fun t ht => h.so t (hp.subset ht), fun t ht => h.up t (hp.subset ht), hp.symm.pairwise h.apart (fun hxy b h1 h2 => hxy b h2 h1)⟩
/-- two things as one -/
def Thing.and (s t : Thing) : Thing where
  own b := s.own b ∨ t.own b
  so w := s.so w ∧ t.so w ∧ ∀ b, s.own b → t.own b → False
  lt w h b hb := hb.elim (s.lt w h.1 b) (t.lt w h.2.1 b)
  keep w w' h hs hb := ⟨s.keep w w' h.1 hs (fun b x => hb b (.inl x)), t.keep w w' h.2.1 hs (fun b x => hb b (.inr x)), h.2.2⟩

/-- a block with its cells -/
def box (b : Nat) (T : TypeId) (xs : List Value) : Thing where
  own := fun k => k = b
  so w := Blk w b T xs
  lt _ h _ hk := hk ▸ h.lt
  keep _ _ h _ hk := h.of_heap (hk b rfl)
theorem Hold.box {w0 w : World} {ts : List Thing} (h : Hold w0 w ts) (i : Nat) {b : Nat} {T : TypeId} {xs : List Value} (hi : ts[i]? = some (box b T xs)) : Blk w b T xs := h.at i hi
theorem Hold.new {w0 w : World} {ts : List Thing} (h : Hold w0 w ts) (T : TypeId) (xs : List Value) : Hold w0 (w.alloc (.cells xs.toArray T (0, 0))) (Go.Proofs.YtglohconhbcchaaGreatDoor.box w.heap.size T xs :: ts) :=
  h.add ((Below.refl _ w).alloc (Nat.le_refl _) _) _ (Blk.new w T xs) (fun _ hb => Nat.le_of_eq hb.symm)
theorem Hold.put {w0 w : World} {ts : List Thing} (h : Hold w0 w ts) (i : Nat) {b : Nat} {T : TypeId} {xs : List Value} (hi : ts[i]? = some (Go.Proofs.YtglohconhbcchaaGreatDoor.box b T xs)) (k : Nat) (v : Value) : Hold w0 (w.setCell ⟨b, k, none⟩ v) (ts.set i (Go.Proofs.YtglohconhbcchaaGreatDoor.box b T (xs.set k v))) :=
  h.step i _ hi ((h.box i hi).set k v) (Kept.setCell (S := (Go.Proofs.YtglohconhbcchaaGreatDoor.box b T xs).own) (Kept.refl _ _ w) (p := ⟨b, k, none⟩) (.inl rfl) v) (fun _ hb => .inl hb)
/-- a fact that leans on no block -/
def pure' (P : Prop) : Thing where
  own _ := False
  so _ := P
  lt _ _ _ h := h.elim
  keep _ _ h _ _ := h
end Go.Proofs.YtglohconhbcchaaGreatDoor
