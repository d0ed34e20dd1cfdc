/- Shadow pages in memory: what a store's blocks hold; the contracts of its reads: page, slot, Slot, Key, Find. A store's reads, on: Find, frames, All, Of, Left. -/
import Derived.Test.YtglohconhbcchaaGreatDoorGview
import Derived.Test.YtglohconhbcchaaGreatDoorRows1
import Derived.Test.YtglohconhbcchaaGreatDoorMade
import Derived.Laws.StructEq
import Derived.Maps.AppendAt
import Derived.Deep.QuietTactic
namespace Go.Proofs.YtglohconhbcchaaGreatDoor
open Go.RowKit Go.Shelf Go.Maps

def slC (x : Slt) : List Value := [.int .i64 x.kind, .int .i64 x.dst, .bool x.r.w, .bool x.r.u, .bool x.r.x]
def pgC (p : Pg) : List Value := [.int .i64 p.f, .int .i64 p.k.g, .int .i64 p.k.lv, .int .i64 p.k.ro] ++ p.s.flatMap slC
theorem slC_get (l : List Slt) (k j : Nat) (hk : k < l.length) (hj : j < 5) : (l.flatMap slC)[k * 5 + j]? = (slC (l.getD k slt0))[j]? := by
  induction l generalizing k with
  | nil => simp at hk
  | cons a l ih =>
    have ha : (slC a).length = 5 := rfl
    rw [List.flatMap_cons]
    cases k with
    | zero => rw [List.getElem?_append_left (by omega)]; simp
    | succ k =>
      rw [List.getElem?_append_right (by omega), show (k + 1) * 5 + j - (slC a).length = k * 5 + j by omega, ih k (by simpa using hk)]
      simp
theorem pgC_slot (p : Pg) (i j : Nat) (hi : i < p.s.length) (hj : j < 5) : (pgC p)[4 + i * 5 + j]? = (slC (p.s.getD i slt0))[j]? := by
  unfold pgC
  rw [List.getElem?_append_right (by simp; omega), ← slC_get p.s i j hi hj]
  congr 1
  simp only [List.length_cons, List.length_nil]
  omega
theorem slC_len (l : List Slt) : (l.flatMap slC).length = l.length * 5 := by
  induction l with
  | nil => rfl
  | cons a l ih => rw [List.flatMap_cons, List.length_append, ih]; simp [slC]; omega
theorem slC_set (l : List Slt) (i : Nat) (x : Slt) (hi : i < l.length) (pre rest : List Value) (n : Nat) (hn : n = pre.length + i * 5) : (((((pre ++ l.flatMap slC ++ rest).set n (.int .i64 x.kind)).set (n + 1) (.int .i64 x.dst)).set (n + 2) (.bool x.r.w)).set (n + 3) (.bool x.r.u)).set (n + 4) (.bool x.r.x) = pre ++ (l.set i x).flatMap slC ++ rest := by
  subst hn
  induction l generalizing i pre with
  | nil => simp at hi
  | cons a l ih =>
    cases i with
    | zero =>
      simp only [List.flatMap_cons, slC, List.set_cons_zero, Nat.zero_mul, Nat.add_zero, List.append_assoc]
      rw [List.set_append_right _ _ (Nat.le_refl _), List.set_append_right _ _ (by omega), List.set_append_right _ _ (by omega), List.set_append_right _ _ (by omega), List.set_append_right _ _ (by omega)]
      simp [Nat.add_sub_cancel_left]
    | succ i =>
      have := ih i (by simpa using hi) (pre ++ slC a)
      simp only [List.flatMap_cons, List.set_cons_succ, List.length_append] at this ⊢
      have ha : (slC a).length = 5 := rfl
      rw [ha, show pre.length + 5 + i * 5 = pre.length + (i + 1) * 5 by omega] at this
      simp only [List.append_assoc] at this ⊢
      exact this

/-- where all lies that does not move: the host (fp, its words fb), the guest's memory (p, gp, hb, mb), the store (sp, flp, the map of what is taken km), the TLB (tp), the guard (dp) -/
structure GAd where
  fp : Nat
  fb : Nat
  p : Nat
  gp : Nat
  hb : Nat
  mb : Nat
  cap : Nat
  sp : Nat
  flp : Nat
  km : Nat
  tp : Nat
  dp : Nat
/-- what moves: the row of pages, each page's block, the row of frames given back; the TLB's row; the row of what is loose -/
structure GVl where
  pv : Value
  pbs : List Nat
  bv : Value
  tv : Value
  u : Value
def kl (f : Int) : Lit := .int .i64 f
/-- a map whose keys are just those -/
def Keys (w : World) (b : Nat) (l : List Int) : Prop := ∃ n D, w.ownsMap Tryz.prog 3 (plainElem (H := Unit) Tryz.prog 3) b n D ∧ (∀ f : Int, Maps.has D (kl f) = decide (f ∈ l)) ∧ Maps.size D = l.length
structure SX (w : World) (P : Pm) (A : GAd) (V : GVl) (S : SS) : Prop where
  hdr : Blk w A.sp 124 [.pointer (some ⟨A.fp, 0, none⟩), .pointer (some ⟨A.flp, 0, none⟩), V.pv]
  row : RowP w V.pv V.pbs
  plen : V.pbs.length = S.ps.length
  pg : ∀ (k b : Nat), V.pbs[k]? = some b → ∃ p, S.ps[k]? = some p ∧ Blk w b 128 (pgC p)
  pnd : V.pbs.Nodup
  fl : Blk w A.flp 218 [.int .i64 (P.first : Int), .int .i64 (P.many : Int), .int .i64 (S.fresh : Int), V.bv, .map (some A.km)]
  back : RowI w V.bv S.back
  tk : Keys w A.km (S.ps.map Pg.f)
  inv : SInv P S
def SOwn (A : GAd) (V : GVl) (k : Nat) : Prop := k = A.sp ∨ V.pv.ownBlock = some k ∨ k ∈ V.pbs ∨ k = A.flp ∨ V.bv.ownBlock = some k ∨ k = A.km
theorem Keys.lt {w : World} {b : Nat} {l : List Int} (h : Keys w b l) : b < w.heap.size := by obtain ⟨n, D, h, _⟩ := h; exact h.lt
theorem Keys.keep {w w' : World} {b : Nat} {l : List Int} (h : Keys w b l) (hk : w'.heap[b]? = w.heap[b]?) : Keys w' b l := by
  obtain ⟨n, D, ⟨es, c, h1, h2⟩, h3⟩ := h
  exact ⟨n, D, ⟨es, c, hk.trans h1, h2⟩, h3⟩
theorem SX.lt {w : World} {P : Pm} {A : GAd} {V : GVl} {S : SS} (h : SX w P A V S) : ∀ k, SOwn A V k → k < w.heap.size := by
  rintro k (e | e | e | e | e | e)
  · subst e; exact h.hdr.lt
  · exact h.row.lt' k e
  · obtain ⟨j, hj, e⟩ := List.getElem_of_mem e
    obtain ⟨p, _, hb⟩ := h.pg j k (by rw [List.getElem?_eq_getElem hj, e])
    exact hb.lt
  · subst e; exact h.fl.lt
  · exact h.back.lt' k e
  · subst e; exact h.tk.lt
theorem SX.keep {w w' : World} {P : Pm} {A : GAd} {V : GVl} {S : SS} (h : SX w P A V S) (hk : ∀ k, SOwn A V k → w'.heap[k]? = w.heap[k]?) : SX w' P A V S :=
  ⟨h.hdr.of_heap (hk _ (.inl rfl)), h.row.keep (fun b hb => hk b (.inr (.inl hb))), h.plen, fun k b hb => by
    obtain ⟨p, h1, h2⟩ := h.pg k b hb
    exact ⟨p, h1, h2.of_heap (hk b (.inr (.inr (.inl (List.mem_of_getElem? hb)))))⟩, h.pnd, h.fl.of_heap (hk _ (.inr (.inr (.inr (.inl rfl))))), h.back.keep (fun b hb => hk b (.inr (.inr (.inr (.inr (.inl hb)))))),
    h.tk.keep (hk _ (.inr (.inr (.inr (.inr (.inr rfl)))))), h.inv⟩
theorem SX.past {w w' : World} {P : Pm} {A : GAd} {V : GVl} {S : SS} (h : SX w P A V S) (hb : Below w.heap.size w w') : SX w' P A V S := h.keep fun k hk => hb.block k (h.lt k hk)
/-- the page of a frame: where it stands -/
theorem SX.at {w : World} {P : Pm} {A : GAd} {V : GVl} {S : SS} (h : SX w P A V S) {f : Int} {p : Pg} (hp : spage S.ps f = some p) : ∃ k b, S.ps[k]? = some p ∧ V.pbs[k]? = some b ∧ Blk w b 128 (pgC p) ∧ p.f = f ∧ p ∈ S.ps ∧ k < S.ps.length ∧
    fidx id (S.ps.map fun q => decide (q.f = f)) = (k : Int) := by
  rcases fidx_forms (fun q : Pg => decide (q.f = f)) S.ps with ⟨_, _, h0, _⟩ | ⟨k, hk, h1, h2, _, _⟩
  · unfold spage at hp; rw [h0] at hp; cases hp
  · unfold spage at hp
    rw [h2] at hp
    have e := Option.some.inj hp
    have hkp : S.ps[k]? = some p := by rw [List.getElem?_eq_getElem hk, e]
    have hkb : k < V.pbs.length := by rw [h.plen]; exact hk
    obtain ⟨q, hq, hb⟩ := h.pg k V.pbs[k] (List.getElem?_eq_getElem hkb)
    rw [hkp] at hq
    cases hq
    refine ⟨k, V.pbs[k], hkp, List.getElem?_eq_getElem hkb, hb, ?_, List.mem_of_getElem? hkp, hk, by rw [fidx_map]; exact h1⟩
    have := List.find?_some (h2.trans (congrArg some e))
    simpa using this
theorem SX.nopage {w : World} {P : Pm} {A : GAd} {V : GVl} {S : SS} (_ : SX w P A V S) {f : Int} (hp : spage S.ps f = none) : fidx id (S.ps.map fun q => decide (q.f = f)) = -1 := by
  rw [fidx_map]
  rcases fidx_forms (fun q : Pg => decide (q.f = f)) S.ps with ⟨_, h0, _, _⟩ | ⟨k, hk, h1, h2, _, _⟩
  · exact h0
  · unfold spage at hp; rw [h2] at hp; cases hp
theorem ibeq (x f : Int) : (x == f) = decide (x = f) := by rw [Bool.eq_iff_iff]; simp
/-- the closure that page asks with -/
theorem pageq_any (w : World) (b fb : Nat) (x f : Int) (hb : w.cell? ⟨b, 0, none⟩ = some (.int .i64 x)) (hf : w.cell? ⟨fb, 0, none⟩ = some (.int .i64 f)) :
    Calls Tryz.prog 118 #[.pointer (some ⟨b, 0, none⟩), .pointer (some ⟨fb, 0, none⟩)] w fun e w' => e = .returned (.bool (decide (x = f))) ∧ Below w.heap.size w w' := by
  have hl := lt_of_cell hb
  have hl' := lt_of_cell hf
  go_enter Tryz.func118, Tryz.ntmps118
  go_wp2_with fail
  go_quiet (fail)
  go_wp2
  go_ret
  exact ⟨by rw [ibeq]; rfl, below_of_drewN _ _⟩
theorem index_page {w : World} {P : Pm} {A : GAd} {V : GVl} {S : SS} (h : SX w P A V S) (f : Int) (fb : Nat) (hf : Blk w fb 3 [.int .i64 f]) :
    Calls Tryz.prog 117 #[V.pv, .func (.func 118) #[] #[.pointer (some ⟨fb, 0, none⟩)]] w
      fun e w' => e = .returned (.int .i64 (fidx id (S.ps.map fun q => decide (q.f = f)))) ∧ Below w.heap.size w w' := by
  refine ixP_any w V.pv V.pbs 118 #[.pointer (some ⟨fb, 0, none⟩)] (S.ps.map fun q => decide (q.f = f)) h.row (by rw [List.length_map, h.plen]) (enters_of Tryz.func118 (by kernel_rfl) rfl) (fun k hk W hW => ?_)
  obtain ⟨p, hp, hb⟩ := (h.past hW).pg k V.pbs[k] (List.getElem?_eq_getElem hk)
  have := pageq_any W V.pbs[k] fb p.f f (hb.cell (k := 0) rfl) ((hf.past hW).cell (k := 0) rfl)
  have e : (S.ps.map fun q => decide (q.f = f)).getD k false = decide (p.f = f) := by rw [List.getD, List.getElem?_map, hp]; rfl
  rw [e, List.getD, List.getElem?_eq_getElem hk]
  exact this

set_option maxRecDepth 100000 in
set_option maxHeartbeats 1000000 in
theorem page_yes {w : World} {P : Pm} {A : GAd} {V : GVl} {S : SS} (h : SX w P A V S) (f : Int) (k b : Nat) (hk : fidx id (S.ps.map fun q => decide (q.f = f)) = (k : Int)) (hb : V.pbs[k]? = some b) :
    Calls Tryz.prog 68 #[.pointer (some ⟨A.sp, 0, none⟩), .int .i64 f] w
      fun e w' => e = .returned (.pointer (some ⟨b, 0, none⟩)) ∧ Below w.heap.size w w' := by
  have hn := Blk.new w 3 [.int .i64 f]
  have bb := bal w (.cells #[.int .i64 f] 3)
  obtain ⟨w0, hw0⟩ : ∃ w0, w.alloc (.cells #[.int .i64 f] 3) = w0 := ⟨_, rfl⟩
  rw [show w.alloc (.cells [Value.int .i64 f].toArray 3) = w0 from hw0] at hn
  rw [hw0] at bb
  have h0 := h.past bb
  have hix := index_page h0 f w.heap.size hn
  rw [hk] at hix
  have hlt : k < V.pbs.length := (List.getElem?_eq_some_iff.1 hb).1
  have hbk : V.pbs.getD k 0 = b := by rw [List.getD, hb]; rfl
  rcases h0.row.view with ⟨_, e⟩ | ⟨g, cap, rest, hv, hrow, h1, h2, h3⟩
  · rw [e] at hlt; simp at hlt
  · have hcell := fun W (hW : Below w0.heap.size w0 W) => RowP.cell (n := 0) rfl (hrow.past hW) k hlt
    have c2 := h.hdr.cell (k := 2) rfl
    have c2' := h0.hdr.cell (k := 2) rfl
    have l2 := h.hdr.lt
    have hd := h0.hdr
    rw [hv] at hix c2 c2' hd
    rw [hbk] at hcell
    obtain ⟨n, hn⟩ : ∃ n, V.pbs.length = n := ⟨_, rfl⟩
    rw [hn] at hix c2 c2' hlt h1 hd
    unfold maxLen at h2
    have HI := Lib.hid hix
    have HC := Lib.hid hcell
    have HW := Lib.hid hw0
    have HD := Lib.hid hd
    have lg := hrow.lt
    clear hix hcell hw0 hn h0 hrow h hv hbk hb h3 hk c2' hd
    go_enter Tryz.func68, Tryz.ntmps68
    go_wp2_with (go_at_call 117; rw [HW.out]; (with_reducible refine HI.out.mono ?_); rintro e W1 ⟨rfl, b1⟩; have d0 := HC.out W1 b1; have d1 := (HD.out.past b1).cell (k := 2) rfl; have d2 := (HD.out.past b1).lt)
    go_ret
    exact ⟨rfl, bb.trans (b1.mono bb.size)⟩
theorem page_no {w : World} {P : Pm} {A : GAd} {V : GVl} {S : SS} (h : SX w P A V S) (f : Int) (hk : fidx id (S.ps.map fun q => decide (q.f = f)) = -1) :
    Calls Tryz.prog 68 #[.pointer (some ⟨A.sp, 0, none⟩), .int .i64 f] w
      fun e w' => e = .returned (.pointer none) ∧ Below w.heap.size w w' := by
  have hn := Blk.new w 3 [.int .i64 f]
  have bb := bal w (.cells #[.int .i64 f] 3)
  obtain ⟨w0, hw0⟩ : ∃ w0, w.alloc (.cells #[.int .i64 f] 3) = w0 := ⟨_, rfl⟩
  rw [show w.alloc (.cells [Value.int .i64 f].toArray 3) = w0 from hw0] at hn
  rw [hw0] at bb
  have h0 := h.past bb
  have hix := index_page h0 f w.heap.size hn
  rw [hk] at hix
  have c2 := h.hdr.cell (k := 2) rfl
  have l2 := h.hdr.lt
  obtain ⟨pv, hpv⟩ : ∃ pv, V.pv = pv := ⟨_, rfl⟩
  have ho : pv.oneCell' = true := by rw [← hpv]; exact h.row.one
  rw [hpv] at hix c2
  have HI := Lib.hid hix
  have HW := Lib.hid hw0
  clear hix hw0 hn h0 h hk hpv
  go_enter Tryz.func68, Tryz.ntmps68
  go_wp2_with (go_at_call 117; rw [HW.out]; (with_reducible refine HI.out.mono ?_); rintro e W1 ⟨rfl, b1⟩)
  go_ret
  exact ⟨rfl, bb.trans (b1.mono bb.size)⟩

theorem sslot_page {ps : List Pg} {f i : Int} {p : Pg} (hp : spage ps f = some p) : sslot ps f i = pslot p i := by unfold sslot; rw [hp]; rfl
/-- a slot's cells -/
theorem slot_cells {w : World} {b : Nat} {p : Pg} (hb : Blk w b 128 (pgC p)) (h8 : p.s.length = 8) (i : Nat) (hi : i < 8) (x : Slt) (hx : p.s.getD i slt0 = x) :
    w.cell? ⟨b, 4 + i * 5, none⟩ = some (.int .i64 x.kind) ∧ w.cell? ⟨b, 4 + i * 5 + 1, none⟩ = some (.int .i64 x.dst) ∧ w.cell? ⟨b, 4 + i * 5 + 2, none⟩ = some (.bool x.r.w) ∧ w.cell? ⟨b, 4 + i * 5 + 3, none⟩ = some (.bool x.r.u) ∧ w.cell? ⟨b, 4 + i * 5 + 4, none⟩ = some (.bool x.r.x) := by
  subst hx
  have g := fun j (hj : j < 5) => pgC_slot p i j (by omega) hj
  exact ⟨hb.cell (g 0 (by omega)), hb.cell (g 1 (by omega)), hb.cell (g 2 (by omega)), hb.cell (g 3 (by omega)), hb.cell (g 4 (by omega))⟩
theorem slot_yes {w : World} {P : Pm} {A : GAd} {V : GVl} {S : SS} (h : SX w P A V S) (f : Int) (i k b : Nat) (hk : fidx id (S.ps.map fun q => decide (q.f = f)) = (k : Int)) (hb : V.pbs[k]? = some b) (hi : i < 8) :
    Calls Tryz.prog 69 #[.pointer (some ⟨A.sp, 0, none⟩), .int .i64 f, .int .i64 (i : Int)] w
      fun e w' => e = .returned (.pointer (some ⟨b, 4 + i * 5, none⟩)) ∧ Below w.heap.size w w' := by
  have hp := page_yes h f k b hk hb
  have hiz : (i : Int) < 8 := by omega
  have HP := Lib.hid hp
  clear hp h hk hb
  go_enter Tryz.func69, Tryz.ntmps69
  go_wp2_with (go_at_call 68; (with_reducible refine HP.out.mono ?_); rintro e W1 ⟨rfl, b1⟩)
  go_ret
  exact ⟨rfl, b1⟩
theorem slot_no {w : World} {P : Pm} {A : GAd} {V : GVl} {S : SS} (h : SX w P A V S) (f i : Int) (hn : sslot S.ps f i = none) :
    Calls Tryz.prog 69 #[.pointer (some ⟨A.sp, 0, none⟩), .int .i64 f, .int .i64 i] w
      fun e w' => e = .returned (.pointer none) ∧ Below w.heap.size w w' := by
  cases hp : spage S.ps f with
  | none =>
    have hq := page_no h f (h.nopage hp)
    have HP := Lib.hid hq
    clear hq h hp hn
    go_enter Tryz.func69, Tryz.ntmps69
    go_wp2_with (go_at_call 68; (with_reducible refine HP.out.mono ?_); rintro e W1 ⟨rfl, b1⟩)
    go_ret
    exact ⟨rfl, b1⟩
  | some p =>
    obtain ⟨k, b, _, hb, _, _, hm, _, hk⟩ := h.at hp
    have hq := page_yes h f k b hk hb
    have hi : i < 0 ∨ 8 ≤ i := by
      rw [sslot_page hp] at hn
      unfold pslot at hn
      split at hn
      · rename_i hc
        have := h.inv.sl p hm
        rw [List.getElem?_eq_getElem (by omega)] at hn
        cases hn
      · omega
    have HP := Lib.hid hq
    clear hq h hp hn hk hb hm
    rcases hi with hi | hi
    · go_enter Tryz.func69, Tryz.ntmps69
      go_wp2_with (go_at_call 68; (with_reducible refine HP.out.mono ?_); rintro e W1 ⟨rfl, b1⟩)
      go_ret
      exact ⟨rfl, b1⟩
    · go_enter Tryz.func69, Tryz.ntmps69
      go_wp2_with (go_at_call 68; (with_reducible refine HP.out.mono ?_); rintro e W1 ⟨rfl, b1⟩)
      go_ret
      exact ⟨rfl, b1⟩
/-- where a slot that there is stands -/
theorem SX.slot {w : World} {P : Pm} {A : GAd} {V : GVl} {S : SS} (h : SX w P A V S) {f i : Int} {x : Slt} (hx : sslot S.ps f i = some x) : ∃ (j k b : Nat) (p : Pg), i = (j : Int) ∧ j < 8 ∧ fidx id (S.ps.map fun q => decide (q.f = f)) = (k : Int) ∧ S.ps[k]? = some p ∧ V.pbs[k]? = some b ∧ Blk w b 128 (pgC p) ∧ p.f = f ∧ p ∈ S.ps ∧ p.s.length = 8 ∧ p.s.getD j slt0 = x := by
  obtain ⟨hi, p, hm, hf, hp, hs⟩ := sslot_some hx
  obtain ⟨k, b, h1, h2, h3, h4, h5, _, h6⟩ := h.at hp
  exact ⟨i.toNat, k, b, p, by omega, by omega, h6, h1, h2, h3, h4, h5, h.inv.sl p h5, by rw [List.getD, hs]; rfl⟩
theorem slot_set5 {W w0 : World} {b B0 : Nat} {T : TypeId} {x0 x1 x2 x3 x4 : Value} (v0 v1 v2 v3 v4 : Value) (h : Blk W b T [x0, x1, x2, x3, x4]) (hB : Below B0 w0 W) (hb : B0 ≤ b) :
    Blk (((((W.setCell ⟨b, 0, none⟩ v0).setCell ⟨b, 1, none⟩ v1).setCell ⟨b, 2, none⟩ v2).setCell ⟨b, 3, none⟩ v3).setCell ⟨b, 4, none⟩ v4) b T [v0, v1, v2, v3, v4] ∧
    Below B0 w0 (((((W.setCell ⟨b, 0, none⟩ v0).setCell ⟨b, 1, none⟩ v1).setCell ⟨b, 2, none⟩ v2).setCell ⟨b, 3, none⟩ v3).setCell ⟨b, 4, none⟩ v4) :=
  ⟨((((h.set 0 v0).set 1 v1).set 2 v2).set 3 v3).set 4 v4,
   ((((hB.setCell (p := ⟨b, 0, none⟩) hb v0).setCell (p := ⟨b, 1, none⟩) hb v1).setCell (p := ⟨b, 2, none⟩) hb v2).setCell (p := ⟨b, 3, none⟩) hb v3).setCell (p := ⟨b, 4, none⟩) hb v4⟩
set_option maxRecDepth 100000 in
set_option maxHeartbeats 1000000 in
/-- Slot -/
theorem sslot_any {w : World} {P : Pm} {A : GAd} {V : GVl} {S : SS} (h : SX w P A V S) (f i : Int) (o : Option Slt) (ho : sslot S.ps f i = o) :
    Calls Tryz.prog 23 #[.pointer (some ⟨A.sp, 0, none⟩), .int .i64 f, .int .i64 i] w
      fun e w' => e = .returned (.tuple #[.agg #[.int .i64 (o.getD slt0).kind, .int .i64 (o.getD slt0).dst, .bool (o.getD slt0).r.w, .bool (o.getD slt0).r.u, .bool (o.getD slt0).r.x], .bool o.isSome]) ∧ Below w.heap.size w w' := by
  have b0 := bal w (.cells #[.int .i64 0, .int .i64 0, .bool false, .bool false, .bool false] 64)
  have hz := Blk.new w 64 [.int .i64 0, .int .i64 0, .bool false, .bool false, .bool false]
  obtain ⟨w0, hw0⟩ : ∃ w0, w.alloc (.cells #[.int .i64 0, .int .i64 0, .bool false, .bool false, .bool false] 64) = w0 := ⟨_, rfl⟩
  rw [show (w.alloc (.cells [Value.int .i64 0, .int .i64 0, .bool false, .bool false, .bool false].toArray 64)) = w0 from hw0] at hz
  rw [hw0] at b0
  have h0 := h.past b0
  have HZ := Lib.hid hz
  have HW := Lib.hid hw0
  have HB := Lib.hid b0
  cases o with
  | none =>
    have hs := slot_no h0 f i ho
    have HS := Lib.hid hs
    clear hs h0 h hz hw0 b0 ho
    dsimp only [Option.getD_none, Option.isSome_none, slt0]
    go_enter Tryz.func23, Tryz.ntmps23
    go_wp2_with (go_at_call 69; rw [HW.out]; (with_reducible refine HS.out.mono ?_); rintro e W1 ⟨rfl, b1⟩; have Z1 := HZ.out.past b1; have z0 := Z1.cell (k := 0) rfl; have z1 := Z1.cell (k := 1) rfl; have z2 := Z1.cell (k := 2) rfl; have z3 := Z1.cell (k := 3) rfl; have z4 := Z1.cell (k := 4) rfl; have zf := fun j => Z1.free j)
    obtain ⟨R, BB⟩ := slot_set5 (.int .i64 0) (.int .i64 0) (.bool false) (.bool false) (.bool false) Z1 (HB.out.trans (b1.mono HB.out.size)) (Nat.le_refl _)
    have r0 := R.cell (k := 0) rfl
    have r1 := R.cell (k := 1) rfl
    have r2 := R.cell (k := 2) rfl
    have r3 := R.cell (k := 3) rfl
    have r4 := R.cell (k := 4) rfl
    refine bodyPost_ret (v := .tuple #[.agg #[.int .i64 0, .int .i64 0, .bool false, .bool false, .bool false], .bool false]) ?_ rfl ⟨rfl, BB⟩
    clear Z1 R BB
    simp [results, Tryz.results23, go_sem, r0, r1, r2, r3, r4]
  | some x =>
    obtain ⟨j, k, b, p, rfl, hj, hk, _, hb, hbl, _, _, h8, hx⟩ := h0.slot ho
    have hs := slot_yes h0 f j k b hk hb hj
    have hc := fun W (hW : Below w0.heap.size w0 W) => slot_cells (hbl.past hW) h8 j hj x hx
    obtain ⟨xk, xd, ⟨xw, xu, xx⟩⟩ := x
    have HS := Lib.hid hs
    have HC := Lib.hid hc
    clear hs hc h0 h hz hw0 b0 ho hk hb hbl h8 hx hj
    dsimp only [Option.getD_some, Option.isSome_some]
    go_enter Tryz.func23, Tryz.ntmps23
    go_wp2_with (go_at_call 69; rw [HW.out]; (with_reducible refine HS.out.mono ?_); rintro e W1 ⟨rfl, b1⟩; obtain ⟨q0, q1, q2, q3, q4⟩ := HC.out W1 b1; have Z1 := HZ.out.past b1; have z0 := Z1.cell (k := 0) rfl; have z1 := Z1.cell (k := 1) rfl; have z2 := Z1.cell (k := 2) rfl; have z3 := Z1.cell (k := 3) rfl; have z4 := Z1.cell (k := 4) rfl; have zf := fun j => Z1.free j)
    obtain ⟨R, BB⟩ := slot_set5 (.int .i64 xk) (.int .i64 xd) (.bool xw) (.bool xu) (.bool xx) Z1 (HB.out.trans (b1.mono HB.out.size)) (Nat.le_refl _)
    have r0 := R.cell (k := 0) rfl
    have r1 := R.cell (k := 1) rfl
    have r2 := R.cell (k := 2) rfl
    have r3 := R.cell (k := 3) rfl
    have r4 := R.cell (k := 4) rfl
    refine bodyPost_ret (v := .tuple #[.agg #[.int .i64 xk, .int .i64 xd, .bool xw, .bool xu, .bool xx], .bool true]) ?_ rfl ⟨rfl, BB⟩
    clear Z1 R BB q0 q1 q2 q3 q4 z0 z1 z2 z3 z4 zf
    simp [results, Tryz.results23, go_sem, r0, r1, r2, r3, r4]
theorem key_set3 {W w0 : World} {b B0 : Nat} {T : TypeId} {x0 x1 x2 : Value} (v0 v1 v2 : Value) (h : Blk W b T [x0, x1, x2]) (hB : Below B0 w0 W) (hb : B0 ≤ b) :
    Blk (((W.setCell ⟨b, 0, none⟩ v0).setCell ⟨b, 1, none⟩ v1).setCell ⟨b, 2, none⟩ v2) b T [v0, v1, v2] ∧
    Below B0 w0 (((W.setCell ⟨b, 0, none⟩ v0).setCell ⟨b, 1, none⟩ v1).setCell ⟨b, 2, none⟩ v2) :=
  ⟨((h.set 0 v0).set 1 v1).set 2 v2, ((hB.setCell (p := ⟨b, 0, none⟩) hb v0).setCell (p := ⟨b, 1, none⟩) hb v1).setCell (p := ⟨b, 2, none⟩) hb v2⟩
def key0 : Key := ⟨0, 0, 0⟩
set_option maxRecDepth 100000 in
set_option maxHeartbeats 1000000 in
/-- Key -/
theorem skey_any {w : World} {P : Pm} {A : GAd} {V : GVl} {S : SS} (h : SX w P A V S) (f : Int) (o : Option Key) (ho : skey S.ps f = o) :
    Calls Tryz.prog 22 #[.pointer (some ⟨A.sp, 0, none⟩), .int .i64 f] w
      fun e w' => e = .returned (.tuple #[.agg #[.int .i64 (o.getD key0).g, .int .i64 (o.getD key0).lv, .int .i64 (o.getD key0).ro], .bool o.isSome]) ∧ Below w.heap.size w w' := by
  have b0 := bal w (.cells #[.int .i64 0, .int .i64 0, .int .i64 0] 54)
  have hz := Blk.new w 54 [.int .i64 0, .int .i64 0, .int .i64 0]
  obtain ⟨w0, hw0⟩ : ∃ w0, w.alloc (.cells #[.int .i64 0, .int .i64 0, .int .i64 0] 54) = w0 := ⟨_, rfl⟩
  rw [show (w.alloc (.cells [Value.int .i64 0, .int .i64 0, .int .i64 0].toArray 54)) = w0 from hw0] at hz
  rw [hw0] at b0
  have h0 := h.past b0
  have HZ := Lib.hid hz
  have HW := Lib.hid hw0
  have HB := Lib.hid b0
  cases hp : spage S.ps f with
  | none =>
    obtain rfl : o = none := by rw [← ho]; unfold skey; rw [hp]; rfl
    have hs := page_no h0 f (h0.nopage hp)
    have HS := Lib.hid hs
    clear hs h0 h hz hw0 b0 ho hp
    dsimp only [Option.getD_none, Option.isSome_none, key0]
    go_enter Tryz.func22, Tryz.ntmps22
    go_wp2_with (go_at_call 68; rw [HW.out]; (with_reducible refine HS.out.mono ?_); rintro e W1 ⟨rfl, b1⟩; have Z1 := HZ.out.past b1; have z0 := Z1.cell (k := 0) rfl; have z1 := Z1.cell (k := 1) rfl; have z2 := Z1.cell (k := 2) rfl; have zf := fun j => Z1.free j)
    obtain ⟨R, BB⟩ := key_set3 (.int .i64 0) (.int .i64 0) (.int .i64 0) Z1 (HB.out.trans (b1.mono HB.out.size)) (Nat.le_refl _)
    have r0 := R.cell (k := 0) rfl
    have r1 := R.cell (k := 1) rfl
    have r2 := R.cell (k := 2) rfl
    refine bodyPost_ret (v := .tuple #[.agg #[.int .i64 0, .int .i64 0, .int .i64 0], .bool false]) ?_ rfl ⟨rfl, BB⟩
    clear Z1 R BB
    simp [results, Tryz.results22, go_sem, r0, r1, r2]
  | some p =>
    obtain rfl : o = some p.k := by rw [← ho]; unfold skey; rw [hp]; rfl
    obtain ⟨k, b, _, hb, hbl, _, _, _, hk⟩ := h0.at hp
    have hs := page_yes h0 f k b hk hb
    have hc : ∀ W (hW : Below w0.heap.size w0 W), W.cell? ⟨b, 1, none⟩ = some (.int .i64 p.k.g) ∧ W.cell? ⟨b, 2, none⟩ = some (.int .i64 p.k.lv) ∧ W.cell? ⟨b, 3, none⟩ = some (.int .i64 p.k.ro) := fun W hW => ⟨(hbl.past hW).cell rfl, (hbl.past hW).cell rfl, (hbl.past hW).cell rfl⟩
    obtain ⟨pf, ⟨kg, kv, kr⟩, ps⟩ := p
    have HS := Lib.hid hs
    have HC := Lib.hid hc
    clear hs hc h0 h hz hw0 b0 ho hk hb hbl hp
    dsimp only [Option.getD_some, Option.isSome_some]
    go_enter Tryz.func22, Tryz.ntmps22
    go_wp2_with (go_at_call 68; rw [HW.out]; (with_reducible refine HS.out.mono ?_); rintro e W1 ⟨rfl, b1⟩; obtain ⟨q0, q1, q2⟩ := HC.out W1 b1; have Z1 := HZ.out.past b1; have z0 := Z1.cell (k := 0) rfl; have z1 := Z1.cell (k := 1) rfl; have z2 := Z1.cell (k := 2) rfl; have zf := fun j => Z1.free j)
    obtain ⟨R, BB⟩ := key_set3 (.int .i64 kg) (.int .i64 kv) (.int .i64 kr) Z1 (HB.out.trans (b1.mono HB.out.size)) (Nat.le_refl _)
    have r0 := R.cell (k := 0) rfl
    have r1 := R.cell (k := 1) rfl
    have r2 := R.cell (k := 2) rfl
    refine bodyPost_ret (v := .tuple #[.agg #[.int .i64 kg, .int .i64 kv, .int .i64 kr], .bool true]) ?_ rfl ⟨rfl, BB⟩
    clear Z1 R BB q0 q1 q2 z0 z1 z2 zf
    simp [results, Tryz.results22, go_sem, r0, r1, r2]
end Go.Proofs.YtglohconhbcchaaGreatDoor

namespace Go.Proofs.YtglohconhbcchaaGreatDoor
open Go.RowKit Go.Shelf Go.Maps

/-- a slice of integers, made since -/
def NewI (B : Nat) (w : World) (v : Value) (l : List Int) : Prop := w.ownsRow B 3 1 v l.length (l.map valI)
theorem NewI.row {B : Nat} {w : World} {v : Value} {l : List Int} (h : NewI B w v l) : RowI w v l := by
  rcases h with ⟨h0, h | ⟨g, cap, cur, h1, _, h3⟩⟩
  · exact ⟨h0, .inl h⟩
  · exact ⟨h0, .inr ⟨g, cap, cur, h1, Nat.zero_le _, h3⟩⟩
theorem NewI.lo {B : Nat} {w : World} {v : Value} {l : List Int} (h : NewI B w v l) : ∀ b, v.ownBlock = some b → B ≤ b := by
  rcases h with ⟨_, ⟨rfl, _⟩ | ⟨g, cap, cur, rfl, h2, _⟩⟩
  · intro b hb; simp [Value.ownBlock] at hb
  · intro b hb; simp [Value.ownBlock] at hb; omega
theorem NewI.nil (B : Nat) (w : World) : NewI B w (.slice none 0 0) [] := World.ownsRow_nil _ _ _ _
theorem NewI.past {B : Nat} {w w' : World} {v : Value} {l : List Int} (h : NewI B w v l) (hb : Below w.heap.size w w') : NewI B w' v l := World.ownsRow.kept h (grownBy_of_below hb) (by cases v.ownBlock <;> simp)
theorem NewI.form {B : Nat} {w : World} {v : Value} {l : List Int} (h : NewI B w v l) : ∃ a c, v = .slice a l.length c := by
  rcases h with ⟨_, ⟨rfl, e⟩ | ⟨g, cap, cur, rfl, h2, _⟩⟩
  · exact ⟨none, 0, by rw [e]⟩
  · exact ⟨_, _, rfl⟩
/-- the keys of pages, and frames, by places -/
theorem SX.page {w : World} {P : Pm} {A : GAd} {V : GVl} {S : SS} (h : SX w P A V S) (k : Nat) (hk : k < S.ps.length) : ∃ p, S.ps[k]? = some p ∧ S.ps.getD k pg0 = p ∧ Blk w (V.pbs.getD k 0) 128 (pgC p) ∧ p ∈ S.ps := by
  have hkb : k < V.pbs.length := by rw [h.plen]; exact hk
  obtain ⟨p, h1, h2⟩ := h.pg k V.pbs[k] (List.getElem?_eq_getElem hkb)
  exact ⟨p, h1, by rw [List.getD, h1]; rfl, by rw [List.getD, List.getElem?_eq_getElem hkb]; exact h2, List.mem_of_getElem? h1⟩
set_option maxRecDepth 100000 in
set_option maxHeartbeats 2000000 in
theorem sfind_any {w : World} {P : Pm} {A : GAd} {V : GVl} {S : SS} (h : SX w P A V S) (kg kv kr : Int) (o : Option Int) (ho : sfind S.ps ⟨kg, kv, kr⟩ = o) :
    Calls Tryz.prog 17 #[.pointer (some ⟨A.sp, 0, none⟩), .agg #[.int .i64 kg, .int .i64 kv, .int .i64 kr]] w
      fun e w' => e = .returned (.tuple #[.int .i64 (o.getD 0), .bool o.isSome]) ∧ Below w.heap.size w w' := by
  have b0 := bal w (.cells #[.int .i64 kg, .int .i64 kv, .int .i64 kr] 54)
  have hz := Blk.new w 54 [.int .i64 kg, .int .i64 kv, .int .i64 kr]
  obtain ⟨w0, hw0⟩ : ∃ w0, w.alloc (.cells #[.int .i64 kg, .int .i64 kv, .int .i64 kr] 54) = w0 := ⟨_, rfl⟩
  rw [show (w.alloc (.cells [Value.int .i64 kg, .int .i64 kv, .int .i64 kr].toArray 54)) = w0 from hw0] at hz
  rw [hw0] at b0
  have h0 := h.past b0
  have c2 := h.hdr.cell (k := 2) rfl
  have c2' := h0.hdr.cell (k := 2) rfl
  have l2 := h.hdr.lt
  have hpage := fun W (hW : Below w0.heap.size w0 W) k hk => (h0.past hW).page k hk
  obtain ⟨len, hlen⟩ : ∃ len, S.ps.length = len := ⟨_, rfl⟩
  have hrow := h0.row.view
  have hpl := h.plen
  rw [hlen] at hpage hpl
  have hgo : ∀ m, m ≤ len → (∀ j, j < m → (S.ps.getD j pg0).k ≠ ⟨kg, kv, kr⟩) → (m = len → o = none) ∧ (m < len → (S.ps.getD m pg0).k = ⟨kg, kv, kr⟩ → o = some (S.ps.getD m pg0).f) := by
    intro m hm hno
    have htake : (S.ps.take m).find? (fun p => decide (p.k = ⟨kg, kv, kr⟩)) = none := List.find?_eq_none.2 fun p hp => by
      obtain ⟨j, hj, e⟩ := List.getElem_of_mem hp
      rw [List.length_take] at hj
      rw [List.getElem_take] at e
      have := hno j (by omega)
      rw [getD_at _ (by omega), e] at this
      simpa using this
    refine ⟨fun e => ?_, fun hlt hk => ?_⟩
    · rw [e, ← hlen, List.take_length] at htake
      rw [← ho]; unfold sfind; rw [htake]; rfl
    · have hs : S.ps.find? (fun p => decide (p.k = ⟨kg, kv, kr⟩)) = some (S.ps.getD m pg0) := by
        conv => lhs; rw [← List.take_append_drop m S.ps]
        rw [List.find?_append, htake, Option.none_or, List.drop_eq_getElem_cons (by omega), List.find?_cons]
        rw [getD_at _ (by omega)] at hk ⊢
        simp [hk]
      rw [← ho]; unfold sfind; rw [hs]; rfl
  have HG := Lib.hid hgo
  have HP := Lib.hid hpage
  have HZ := Lib.hid hz
  have HW := Lib.hid hw0
  have HB := Lib.hid b0
  have u1 := Tryz.underlying54
  have hp1 : Tryz.prog.stoodInHeld 54 = false := by kernel_rfl
  have hg1 : Tryz.prog.eqGuardType Tryz.prog.depth 54 = false := by kernel_rfl
  rcases hrow with ⟨hv, hnil⟩ | ⟨g, cap, rest, hv, hb, hc1, hc2, hc3⟩
  · rw [hv] at c2 c2'
    obtain rfl : len = 0 := by rw [hnil] at hpl; exact hpl.symm
    obtain rfl : o = none := (hgo 0 (by omega) (fun j hj => absurd hj (by omega))).1 rfl
    clear hgo hpage h0 h hz hw0 ho hlen hpl hnil hv c2' b0
    dsimp only [Option.getD_none, Option.isSome_none]
    go_enter Tryz.func17, Tryz.ntmps17
    go_wp2_with fail
    go_rounds 1
    go_wp2
    go_ret2
    exact ⟨rfl, by rw [HW.out]; exact HB.out⟩
  · rw [hv] at c2 c2'
    have hcell := fun W (hW : Below w0.heap.size w0 W) => RowP.cell (n := 0) rfl (hb.past hW)
    rw [hpl] at c2 c2' hcell hc1
    have hlt := hb.lt
    have hsz := HB.out.size
    unfold maxLen at hc2
    have HC := Lib.hid hcell
    clear hgo hpage h0 h hz ho hlen hv hb hcell hc3 c2' b0 hw0
    go_enter Tryz.func17, Tryz.ntmps17
    go_wp2_with fail
    rw [HW.out]
    go_loopw [7, 13] (fun _ i wr => ∃ m : Nat, m ≤ len ∧ i = .int .i64 m ∧ (∀ j, j < m → (S.ps.getD j pg0).k ≠ ⟨kg, kv, kr⟩) ∧ Below w0.heap.size w0 wr) (fun _ i _ => len - (intOf i).toNat)
    case atStart => exact ⟨0, by omega, rfl, fun j hj => absurd hj (by omega), Below.refl _ _⟩
    case round =>
      obtain ⟨m, hm, rfl, hno, hB⟩ := hrel
      by_cases hml : m < len
      · have c0 := HC.out wr hB m hml
        obtain ⟨p, _, hpd, hpb, _⟩ := HP.out wr hB m hml
        have hz1 := HZ.out.past hB
        have hres := (HG.out m hm hno).2 hml
        rw [hpd] at hres
        obtain ⟨b, hbb⟩ : ∃ b, V.pbs.getD m 0 = b := ⟨_, rfl⟩
        rw [hbb] at c0 hpb
        obtain ⟨pf, ⟨pg, pv, pr⟩, ps⟩ := p
        have p0 : wr.cell? ⟨b, 0, none⟩ = some (.int .i64 pf) := hpb.cell rfl
        have p1 : wr.cell? ⟨b, 1, none⟩ = some (.int .i64 pg) := hpb.cell rfl
        have p2 : wr.cell? ⟨b, 2, none⟩ = some (.int .i64 pv) := hpb.cell rfl
        have p3 : wr.cell? ⟨b, 3, none⟩ = some (.int .i64 pr) := hpb.cell rfl
        have z0 := hz1.cell (k := 0) rfl
        have z1 := hz1.cell (k := 1) rfl
        have z2 := hz1.cell (k := 2) rfl
        have lb := hpb.lt
        have lz := hz1.lt
        have lg : g < wr.heap.size := Nat.lt_of_lt_of_le hlt hB.size
        have HN := Lib.hid hno
        have HRes := Lib.hid hres
        have HPd := Lib.hid hpd
        clear hno hres hpd hpb hz1 hbb hm
        have hnext : (⟨pg, pv, pr⟩ : Key) ≠ ⟨kg, kv, kr⟩ → ∀ j, j < m + 1 → (S.ps.getD j pg0).k ≠ ⟨kg, kv, kr⟩ := fun hne j hj => by
          by_cases hjm : j < m
          · exact HN.out j hjm
          · obtain rfl : j = m := by omega
            rw [HPd.out]; exact hne
        have HNx := Lib.hid hnext
        clear hnext
        by_cases e1 : pg = kg
        · subst e1
          by_cases e2 : pv = kv
          · subst e2
            by_cases e3 : pr = kr
            · subst e3
              go_wp2_with fail
              go_quiet (fail)
              go_wp2
              go_ret2
              have := HRes.out trivial
              rw [this]
              exact ⟨rfl, HB.out.trans ((below_drewN hB _).mono hsz)⟩
            · have f3 : (pr == kr) = false := beq_eq_false_iff_ne.2 e3
              go_wp2_with fail
              go_quiet (fail)
              go_wp2
              go_roundw
              case rel => exact ⟨m + 1, by omega, by simp, HNx.out (fun e => e3 (by simpa using e)), below_drewN hB _⟩
              case measure => simp [intOf]; omega
          · have f2 : (pv == kv) = false := beq_eq_false_iff_ne.2 e2
            go_wp2_with fail
            go_quiet (fail)
            go_wp2
            go_roundw
            case rel => exact ⟨m + 1, by omega, by simp, HNx.out (fun e => e2 (by simp at e; exact e.1)), below_drewN hB _⟩
            case measure => simp [intOf]; omega
        · have f1 : (pg == kg) = false := beq_eq_false_iff_ne.2 e1
          go_wp2_with fail
          go_quiet (fail)
          go_wp2
          go_roundw
          case rel => exact ⟨m + 1, by omega, by simp, HNx.out (fun e => e1 (by simp at e; exact e.1)), below_drewN hB _⟩
          case measure => simp [intOf]; omega
      · obtain rfl : m = len := by omega
        obtain rfl : o = none := (HG.out m hm hno).1 rfl
        clear hno
        go_wp2
        go_ret2
        exact ⟨rfl, HB.out.trans (hB.mono hsz)⟩

set_option maxRecDepth 100000 in
set_option maxHeartbeats 2000000 in
theorem sframes_any {w : World} {P : Pm} {A : GAd} {V : GVl} {S : SS} (h : SX w P A V S) (g : Nat) (lb : Array Value) (is : Key → Bool)
    (eg : ∀ args w, (callFunc g args).run Tryz.prog w = .ok (.enter g args) w)
    (hp : ∀ kg kv kr, ∀ W, Below w.heap.size w W → Calls Tryz.prog g (#[.agg #[.int .i64 kg, .int .i64 kv, .int .i64 kr]] ++ lb) W fun e W' => e = .returned (.bool (is ⟨kg, kv, kr⟩)) ∧ Below W.heap.size W W') :
    Calls Tryz.prog 65 #[.pointer (some ⟨A.sp, 0, none⟩), .func (.func g) #[] lb] w
      fun e w' => (∃ v, e = .returned v ∧ NewI w.heap.size w' v ((S.ps.filter fun p => is p.k).map Pg.f)) ∧ Below w.heap.size w w' := by
  have c2 := h.hdr.cell (k := 2) rfl
  have l2 := h.hdr.lt
  have hpage := fun W (hW : Below w.heap.size w W) k hk => (h.past hW).page k hk
  obtain ⟨i0, hi, hz0, hz1, hz2⟩ := info_parts info_int
  obtain ⟨len, hlen⟩ : ∃ len, S.ps.length = len := ⟨_, rfl⟩
  have hrow := h.row.view
  have hpl := h.plen
  have hsm : len ≤ 256 := by have h1 := h.inv.cnt; have h2 := h.inv.fr; have h3 := h.inv.top; have h4 := h.inv.small; omega
  rw [hlen] at hpage hpl
  have hstep : ∀ m, m < len → ((S.ps.take (m + 1)).filter fun p => is p.k).map Pg.f = ((S.ps.take m).filter fun p => is p.k).map Pg.f ++ (if is (S.ps.getD m pg0).k then [(S.ps.getD m pg0).f] else []) := fun m hm => by
    rw [List.take_add_one, List.getElem?_eq_getElem (by omega), List.filter_append, List.map_append, getD_at _ (by omega)]
    congr 1
    simp only [Option.toList_some, List.filter_cons, List.filter_nil]
    split <;> rfl
  have hfin : ((S.ps.take len).filter fun p => is p.k).map Pg.f = (S.ps.filter fun p => is p.k).map Pg.f := by rw [← hlen, List.take_length]
  have hlk : ∀ m, m ≤ len → (((S.ps.take m).filter fun p => is p.k).map Pg.f).length ≤ m := fun m hm => by
    rw [List.length_map]
    refine Nat.le_trans (List.length_filter_le _ _) ?_
    rw [List.length_take]; omega
  have HS := Lib.hid hstep
  have HF := Lib.hid hfin
  have HL := Lib.hid hlk
  have HP := Lib.hid hpage
  have HCl := Lib.hid hp
  have H1 := Lib.hid hi
  have HZ0 := Lib.hid hz0
  have HZ1 := Lib.hid hz1
  have HZ2 := Lib.hid hz2
  clear hstep hfin hlk hpage hp hi hz0 hz1 hz2
  rcases hrow with ⟨hv, hnil⟩ | ⟨gb, cap, rest, hv, hb, hc1, hc2, hc3⟩
  · rw [hv] at c2
    obtain rfl : len = 0 := by rw [hnil] at hpl; exact hpl.symm
    clear h hlen hpl hnil hv
    go_enter Tryz.func65, Tryz.ntmps65
    go_wp2_with fail
    go_rounds 1
    go_wp2
    go_ret
    refine ⟨⟨_, rfl, ?_⟩, Below.refl _ _⟩
    rw [← HF.out]; exact NewI.nil _ _
  · rw [hv] at c2
    have hcell := fun W (hW : Below w.heap.size w W) => RowP.cell (n := 0) rfl (hb.past hW)
    rw [hpl] at c2 hcell hc1
    have hlt := hb.lt
    unfold maxLen at hc2
    have HC := Lib.hid hcell
    clear h hlen hv hb hcell hc3
    go_enter Tryz.func65, Tryz.ntmps65
    go_wp2_with fail
    go_loopw [5, 7, 13] (fun v _ i wr => ∃ m : Nat, m ≤ len ∧ i = .int .i64 m ∧ NewI w.heap.size wr v (((S.ps.take m).filter fun p => is p.k).map Pg.f) ∧ Below w.heap.size w wr) (fun _ _ i _ => len - (intOf i).toNat)
    case atStart => exact ⟨0, by omega, rfl, NewI.nil _ _, Below.refl _ _⟩
    case round =>
      obtain ⟨m, hm, rfl, hown, hB⟩ := hrel
      have hlk := HL.out m hm
      by_cases hml : m < len
      · have c0 := HC.out wr hB m hml
        obtain ⟨p, _, hpd, hpb, _⟩ := HP.out wr hB m hml
        have hst := HS.out m hml
        rw [hpd] at hst
        obtain ⟨b, hbb⟩ : ∃ b, V.pbs.getD m 0 = b := ⟨_, rfl⟩
        rw [hbb] at c0 hpb
        obtain ⟨pf, ⟨pg, pv, pr⟩, ps⟩ := p
        have hcall := HCl.out pg pv pr wr hB
        have p1 : wr.cell? ⟨b, 1, none⟩ = some (.int .i64 pg) := hpb.cell rfl
        have p2 : wr.cell? ⟨b, 2, none⟩ = some (.int .i64 pv) := hpb.cell rfl
        have p3 : wr.cell? ⟨b, 3, none⟩ = some (.int .i64 pr) := hpb.cell rfl
        have lb' := hpb.lt
        have lg : gb < wr.heap.size := Nat.lt_of_lt_of_le hlt hB.size
        obtain ⟨bx, hbx⟩ : ∃ bx, is ⟨pg, pv, pr⟩ = bx := ⟨_, rfl⟩
        rw [hbx] at hcall
        dsimp only at hst
        rw [hbx] at hst
        obtain ⟨L, hL⟩ : ∃ L, ((S.ps.take m).filter fun p => is p.k).map Pg.f = L := ⟨_, rfl⟩
        rw [hL] at hst hown hlk
        have HO := Lib.hid hown
        have HPb := Lib.hid hpb
        have HSt := Lib.hid hst
        clear hown hpb hst hbx hbb hpd hL
        cases bx
        · go_wp2_with ((with_reducible refine Calls.mono hcall ?_); rintro e W' ⟨rfl, hb2⟩)
          go_roundw
          case rel => exact ⟨m + 1, by omega, by simp, by rw [HSt.out]; simpa using HO.out.past hb2, hB.trans (hb2.mono hB.size)⟩
          case measure => simp [intOf]; omega
        · go_wp2_with (first
            | (at_builtin; have hO2 := HO.out.past hb2; have hsz2 := hB.trans (hb2.mono hB.size); have hs2 := hsz2.size; refine wpList_append_own _ rfl _ _ 43 rfl w.heap.size 3 i0 _ 1 8 Tryz.underlying43 H1.out HZ0.out HZ1.out HZ2.out rfl (by decide) _ _ _ rfl (World.ownsRow.alloc hO2 _) ⟨W'.heap.size, 0, none⟩ 1 1 [.int .i64 pf] rfl rfl (cell_one_new _ _ _) (fun x hx => by simp at hx; subst hx; rfl) (by unfold maxLen; omega) (by omega) (by simp; omega) ?_; intro v' w3 hown' hgrow3 hnil3; have HO3 := Lib.hid hown'; have HG3 := Lib.hid hgrow3; clear hown' hgrow3 hnil3)
            | ((with_reducible refine Calls.mono hcall ?_); rintro e W' ⟨rfl, hb2⟩; have q0 : W'.cell? ⟨b, 0, none⟩ = some (.int .i64 pf) := (HPb.out.past hb2).cell rfl; have lq := (HPb.out.past hb2).lt))
          go_roundw
          case rel =>
            refine ⟨m + 1, by omega, by simp, ?_, (hsz2.alloc hs2 _).grown HG3.out (by simp; omega) (fun r e => ?_)⟩
            · rw [HSt.out]
              have := HO3.out
              unfold NewI
              rw [List.length_append, List.map_append]
              exact this
            · exact ((World.ownsRow.alloc hO2 (.cells #[.int .i64 pf] 3)).lt r e).1
          case measure => simp [intOf]; omega
      · obtain rfl : m = len := by omega
        rw [HF.out] at hown
        have HO := Lib.hid hown
        clear hown hlk
        go_wp2
        go_ret
        exact ⟨⟨_, rfl, HO.out⟩, hB⟩

theorem NewI.base {B B' : Nat} {w : World} {v : Value} {l : List Int} (h : NewI B w v l) (hB : B' ≤ B) : NewI B' w v l := by
  rcases h with ⟨h0, h | ⟨g, cap, cur, h1, h2, h3⟩⟩
  · exact ⟨h0, .inl h⟩
  · exact ⟨h0, .inr ⟨g, cap, cur, h1, Nat.le_trans hB h2, h3⟩⟩
theorem allq_any (w : World) (kg kv kr : Int) : Calls Tryz.prog 66 #[.agg #[.int .i64 kg, .int .i64 kv, .int .i64 kr]] w fun e w' => e = .returned (.bool true) ∧ Below w.heap.size w w' := by
  go_enter Tryz.func66, Tryz.ntmps66
  go_wp2
  go_ret
  exact ⟨rfl, bal _ _⟩
theorem ofq_any (w : World) (gb : Nat) (g kg kv kr : Int) (hg : w.cell? ⟨gb, 0, none⟩ = some (.int .i64 g)) :
    Calls Tryz.prog 119 #[.agg #[.int .i64 kg, .int .i64 kv, .int .i64 kr], .pointer (some ⟨gb, 0, none⟩)] w fun e w' => e = .returned (.bool (ofB g ⟨kg, kv, kr⟩)) ∧ Below w.heap.size w w' := by
  have hl := lt_of_cell hg
  unfold ofB
  dsimp only
  by_cases h1 : kr = 0
  · subst h1
    by_cases h2 : kg = g
    · subst h2
      go_enter Tryz.func119, Tryz.ntmps119
      go_wp2
      go_ret
      exact ⟨by simp, bal _ _⟩
    · have f2 : (kg == g) = false := beq_eq_false_iff_ne.2 h2
      go_enter Tryz.func119, Tryz.ntmps119
      go_wp2
      go_ret
      exact ⟨by simp [h2], bal _ _⟩
  · have f1 : (kr == 0) = false := beq_eq_false_iff_ne.2 h1
    go_enter Tryz.func119, Tryz.ntmps119
    go_wp2
    go_ret
    exact ⟨by simp [h1], bal _ _⟩
/-- All -/
theorem sall_any {w : World} {P : Pm} {A : GAd} {V : GVl} {S : SS} (h : SX w P A V S) :
    Calls Tryz.prog 20 #[.pointer (some ⟨A.sp, 0, none⟩)] w
      fun e w' => (∃ v, e = .returned v ∧ NewI w.heap.size w' v (sall S.ps)) ∧ Below w.heap.size w w' := by
  have hf := sframes_any h 66 #[] (fun _ => true) (enters_of Tryz.func66 (by kernel_rfl) rfl) (fun kg kv kr W _ => allq_any W kg kv kr)
  have e : (S.ps.filter fun _ => true) = S.ps := List.filter_eq_self.2 fun _ _ => rfl
  rw [e] at hf
  have HF := Lib.hid hf
  clear hf h
  go_enter Tryz.func20, Tryz.ntmps20
  go_wp2_with (go_at_call 65; (with_reducible refine HF.out.mono ?_); rintro e W1 ⟨⟨v, rfl, h1⟩, b1⟩)
  go_ret
  exact ⟨⟨v, rfl, h1⟩, b1⟩
/-- Of -/
theorem sof_any {w : World} {P : Pm} {A : GAd} {V : GVl} {S : SS} (h : SX w P A V S) (g : Int) :
    Calls Tryz.prog 70 #[.pointer (some ⟨A.sp, 0, none⟩), .int .i64 g] w
      fun e w' => (∃ v, e = .returned v ∧ NewI w.heap.size w' v (sof S.ps g)) ∧ Below w.heap.size w w' := by
  have hn := Blk.new w 3 [.int .i64 g]
  have bb := bal w (.cells #[.int .i64 g] 3)
  obtain ⟨w0, hw0⟩ : ∃ w0, w.alloc (.cells #[.int .i64 g] 3) = w0 := ⟨_, rfl⟩
  rw [show w.alloc (.cells [Value.int .i64 g].toArray 3) = w0 from hw0] at hn
  rw [hw0] at bb
  have hf := sframes_any (h.past bb) 119 #[.pointer (some ⟨w.heap.size, 0, none⟩)] (ofB g) (enters_of Tryz.func119 (by kernel_rfl) rfl) (fun kg kv kr W hW => ofq_any W w.heap.size g kg kv kr ((hn.past hW).cell rfl))
  have HF := Lib.hid hf
  have HW := Lib.hid hw0
  clear hf h hw0 hn
  go_enter Tryz.func70, Tryz.ntmps70
  go_wp2_with (go_at_call 65; rw [HW.out]; (with_reducible refine HF.out.mono ?_); rintro e W1 ⟨⟨v, rfl, h1⟩, b1⟩)
  go_ret
  exact ⟨⟨v, rfl, h1.base bb.size⟩, bb.trans (b1.mono bb.size)⟩
end Go.Proofs.YtglohconhbcchaaGreatDoor
