/- A guard's first doors: Loose, Protected, List, tight. A guard's doors, on: the TLB forgotten whole; Zap, Word, tight. A frame's words, as a slice: frame.Frame. The document's SameWords, at rows of words. The document's SameInts. -/
import Derived.Test.YtglohconhbcchaaGreatDoorGfree
namespace Go.Proofs.YtglohconhbcchaaGreatDoor
open Go.RowKit Go.Shelf Go.Maps

set_option maxRecDepth 100000 in
set_option maxHeartbeats 2000000 in
theorem indexI_any (w : World) (v : Value) (l : List Int) (g : Int) (hr : RowI w v l) :
    Calls Tryz.prog 178 #[v, .int .i64 g] w
      fun e w' => (∃ i : Int, e = .returned (.int .i64 i) ∧ decide (0 ≤ i) = l.contains g) ∧ Below w.heap.size w w' := by
  rcases hr.view with ⟨rfl, rfl⟩ | ⟨B, cap, rest, rfl, hb, hc1, hc2, hc3⟩
  · clear hr
    go_enter Tryz.func178, Tryz.ntmps178
    go_wp2
    go_rounds 1
    go_wp2
    go_ret
    exact ⟨⟨_, rfl, rfl⟩, Below.refl _ _⟩
  · have hcell := fun W (hW : Below w.heap.size w W) => RowI.cell (n := 0) rfl (hb.past hW)
    have hlt := hb.lt
    obtain ⟨len, hlen⟩ : ∃ len, l.length = len := ⟨_, rfl⟩
    rw [hlen] at hcell hc1 ⊢
    unfold maxLen at hc2
    have HC := Lib.hid hcell
    have HL := Lib.hid hlen
    clear hlen hr hc3 hcell hb
    go_enter Tryz.func178, Tryz.ntmps178
    go_wp2
    go_loopw [5, 8] (fun _ i wr => ∃ k : Nat, k ≤ len ∧ i = .int .i64 k ∧ (l.take k).contains g = false ∧ Below w.heap.size w wr) (fun _ i _ => len - (intOf i).toNat)
    case atStart => exact ⟨0, by omega, rfl, by simp, Below.refl _ _⟩
    case round =>
      obtain ⟨k, hk, rfl, hno, hB⟩ := hrel
      by_cases hkl : k < len
      · have c0 := HC.out wr hB k hkl
        have hkb : k < l.length := by rw [HL.out]; exact hkl
        have htake : (l.take (k + 1)).contains g = (g == l.getD k 0) := by
          rw [List.take_add_one, List.getElem?_eq_getElem hkb, List.contains_append, hno, List.getD, List.getElem?_eq_getElem hkb]; simp; rw [ibeq]
        have hany : (g == l.getD k 0) = true → l.contains g = true := fun h => by
          rw [beq_iff_eq] at h
          rw [h, List.getD, List.getElem?_eq_getElem hkb]
          exact List.contains_iff_mem.2 (List.getElem_mem _)
        obtain ⟨x, hx⟩ : ∃ x, l.getD k 0 = x := ⟨_, rfl⟩
        rw [hx] at c0 htake hany
        have HT := Lib.hid htake
        have HA := Lib.hid hany
        clear htake hany hno hkb hx
        have lt1 : B < wr.heap.size := Nat.lt_of_lt_of_le hlt hB.size
        by_cases hg : g = x
        · subst hg
          go_wp2_with fail
          go_ret
          exact ⟨⟨_, rfl, by rw [HA.out (by simp)]; simp⟩, hB⟩
        · have fg : (g == x) = false := beq_eq_false_iff_ne.2 hg
          clear hg
          go_wp2_with fail
          go_roundw
          case rel => exact ⟨k + 1, by omega, by go_num, by rw [HT.out]; exact fg, hB⟩
          case measure => simp [intOf]; omega
      · obtain rfl : k = len := by omega
        have hn : l.contains g = false := by rw [← HL.out, List.take_length] at hno; exact hno
        have HN := Lib.hid hn
        clear hno hn
        go_wp2
        go_ret
        exact ⟨⟨_, rfl, by rw [HN.out]; rfl⟩, hB⟩
theorem containsI_any (w : World) (v : Value) (l : List Int) (g : Int) (hr : RowI w v l) :
    Calls Tryz.prog 120 #[v, .int .i64 g] w
      fun e w' => e = .returned (.bool (l.contains g)) ∧ Below w.heap.size w w' := by
  have hcon := indexI_any w v l g hr
  obtain ⟨r, hr⟩ : ∃ r, l.contains g = r := ⟨_, rfl⟩
  rw [hr] at hcon ⊢
  have HC := Lib.hid hcon
  clear hcon hr
  go_enter Tryz.func120, Tryz.ntmps120
  go_wp2_with (go_at_call 178; (with_reducible refine HC.out.mono ?_); rintro e w' ⟨⟨i, rfl, hi⟩, hB⟩; have HI := Lib.hid hi; clear hi)
  go_ret
  exact ⟨by rw [← HI.out]; rfl, hB⟩
theorem gloose_any {w0 w : World} {A : GAd} {P : Pm} {V : GVl} {G : GS} {ts : List Thing} (H : HG w0 w A P V G ts) (g : Int) :
    Calls Tryz.prog 71 #[.pointer (some ⟨A.dp, 0, none⟩), .int .i64 g] w
      fun e w' => e = .returned (.bool (G.loose.contains g)) ∧ Below w.heap.size w w' := by
  have hc := containsI_any w V.u G.loose g H.dx.row
  have c4 := H.dx.hdr.cell (k := 4) rfl
  have ld := H.dx.hdr.lt
  have h1 := H.dx.row.one
  obtain ⟨b, hb⟩ : ∃ b, G.loose.contains g = b := ⟨_, rfl⟩
  rw [hb] at hc ⊢
  have HC := Lib.hid hc
  clear hc H hb
  go_enter Tryz.func71, Tryz.ntmps71
  go_wp2_with (go_at_call 120; (with_reducible refine HC.out.mono ?_); rintro e W1 ⟨rfl, b1⟩)
  go_ret
  exact ⟨rfl, b1⟩
theorem gprot_any {w0 w : World} {A : GAd} {P : Pm} {V : GVl} {G : GS} {ts : List Thing} (H : HG w0 w A P V G ts) (g : Int) :
    Calls Tryz.prog 24 #[.pointer (some ⟨A.dp, 0, none⟩), .int .i64 g] w
      fun e w' => e = .returned (.bool (gprot G g)) ∧ Below w.heap.size w w' := by
  have hc := sof_any H.sx g
  have hl := fun W (hW : Below w.heap.size w W) => gloose_any (H.past hW) g
  have c2 := H.dx.hdr.cell (k := 2) rfl
  have ld := H.dx.hdr.lt
  have hle := H.inv.le
  obtain ⟨L, hL⟩ : ∃ L, sof G.s.ps g = L := ⟨_, rfl⟩
  have hp : gprot G g = (decide (0 < L.length) && !G.loose.contains g) := by unfold gprot; rw [hL]
  have hLe : L.length ≤ 1000 := by rw [← hL]; unfold sof; rw [List.length_map]; exact Nat.le_trans (List.length_filter_le _ _) (by omega)
  rw [hp]
  rw [hL] at hc
  obtain ⟨b, hb⟩ : ∃ b, G.loose.contains g = b := ⟨_, rfl⟩
  rw [hb] at hl ⊢
  obtain ⟨n, hn⟩ : ∃ n, L.length = n := ⟨_, rfl⟩
  rw [hn] at hLe ⊢
  have HC := Lib.hid hc
  have HL := Lib.hid hl
  have HN := Lib.hid hn
  clear hc hl H hL hp hb hn
  go_enter Tryz.func24, Tryz.ntmps24
  by_cases h0 : n = 0
  · subst h0
    go_wp2_with (first
      | (go_at_call 70; (with_reducible refine HC.out.mono ?_); rintro e W1 ⟨⟨v, rfl, hv⟩, b1⟩; obtain ⟨a, c, rfl⟩ := hv.form; rw [HN.out])
      | (go_at_call 71; (with_reducible refine (HL.out W1 b1).mono ?_); rintro e W2 ⟨rfl, b2⟩))
    go_ret
    exact ⟨rfl, b1⟩
  · have hp0 : 0 < n := by omega
    have hd : decide (0 < n) = true := by simpa using hp0
    rw [hd, Bool.true_and]
    go_wp2_with (first
      | (go_at_call 70; (with_reducible refine HC.out.mono ?_); rintro e W1 ⟨⟨v, rfl, hv⟩, b1⟩; obtain ⟨a, c, rfl⟩ := hv.form; rw [HN.out])
      | (go_at_call 71; (with_reducible refine (HL.out W1 b1).mono ?_); rintro e W2 ⟨rfl, b2⟩))
    go_ret
    exact ⟨rfl, b1.trans (b2.mono b1.size)⟩
theorem ieql_nil0 (w : World) : (binOp .eql 43 (.slice none 0 0) (.slice none 0 0)).run Tryz.prog w = .ok (.bool true) w := by kernel_rfl
set_option maxRecDepth 100000 in
set_option maxHeartbeats 1000000 in
/-- Clone of a row of integers -/
theorem cloneI_any (w : World) (v : Value) (l : List Int) (hr : RowI w v l) (hl : l.length ≤ 1000) :
    Calls Tryz.prog 100 #[v] w fun e w' => (∃ v', e = .returned v' ∧ NewI w.heap.size w' v' l) ∧ Below w.heap.size w w' := by
  rcases hr.view with ⟨rfl, rfl⟩ | ⟨g, cap, rest, rfl, hb, hc1, hc2, hc3⟩
  · clear hr
    have hnil := ieql_nil0
    go_enter Tryz.func100, Tryz.ntmps100
    go_wp2
    go_ret
    exact ⟨⟨_, rfl, NewI.nil _ _⟩, Below.refl _ _⟩
  · obtain ⟨i0, hi, hz0, hz1, hz2⟩ := info_parts info_int
    obtain ⟨k, hk⟩ : ∃ k, l.length = k := ⟨_, rfl⟩
    rw [hk] at hl hc1 ⊢
    have hcells : ∀ (o : Obj) j u, (l.map valI)[j]? = some u → (w.alloc o).cell? ((⟨g, 0, none⟩ : Addr).add j) = some u := by
      intro o j u hu
      rw [add0]
      refine (hb.alloc o).cell ?_
      rw [List.getElem?_append_left (List.getElem?_eq_some_iff.1 hu).1]; exact hu
    have hg := hb.lt
    have hx : ∀ u ∈ l.map valI, u.oneCell' = true := by
      intro u hu
      obtain ⟨x, _, rfl⟩ := List.mem_map.1 hu
      rfl
    have HC := Lib.hid hcells
    have HX := Lib.hid hx
    have hlm : (l.map valI).length = k := by rw [List.length_map]; exact hk
    have HL := Lib.hid hlm
    have HK := Lib.hid hk
    have H1 := Lib.hid hi
    have HZ0 := Lib.hid hz0
    have HZ1 := Lib.hid hz1
    have HZ2 := Lib.hid hz2
    have hnil := fun w => eql_nil g k cap w
    have hemp : (w.alloc (.cells #[] 3)).ownsRow w.heap.size 3 1 (.slice (some ⟨w.heap.size, 0, none⟩) 0 0) 0 [] := ⟨rfl, .inr ⟨w.heap.size, 0, #[], rfl, Nat.le_refl _, heap_alloc_new w _, Nat.le_refl _, by unfold maxLen; omega, rfl, rfl⟩⟩
    clear hcells hx hlm hk hi hz0 hz1 hz2 hb hr hc1 hc2 hc3
    go_enter Tryz.func100, Tryz.ntmps100
    go_wp2_with (first
      | (at_builtin; refine wpList_append_own _ rfl _ _ 43 rfl w.heap.size 3 i0 _ 1 8 Tryz.underlying43 H1.out HZ0.out HZ1.out HZ2.out rfl (by decide) _ 0 [] rfl hemp ⟨g, 0, none⟩ k cap (l.map valI) rfl (by rw [HL.out]; omega) (HC.out _) HX.out (by unfold maxLen; omega) (by omega) (by simp) ?_; intro v' w2 hown hgrow hnz; have HO := Lib.hid hown; have HG := Lib.hid hgrow; clear hown hgrow hnz hemp))
    go_ret
    have BB : Below w.heap.size w w2 := ((Below.refl _ w).alloc (Nat.le_refl _) _).grown HG.out (by simp) (fun r e => Nat.le_of_eq (Option.some.inj (show some w.heap.size = some r from e)))
    refine ⟨⟨v', rfl, ?_⟩, BB⟩
    have h := HO.out
    rw [List.nil_append, Nat.zero_add] at h
    unfold NewI
    rw [HK.out]
    exact h
theorem glist_any {w0 w : World} {A : GAd} {P : Pm} {V : GVl} {G : GS} {ts : List Thing} (H : HG w0 w A P V G ts) (hl : G.loose.length ≤ 1000) :
    Calls Tryz.prog 40 #[.pointer (some ⟨A.dp, 0, none⟩)] w
      fun e w' => (∃ v', e = .returned v' ∧ NewI w.heap.size w' v' G.loose) ∧ Below w.heap.size w w' := by
  have hc := cloneI_any w V.u G.loose H.dx.row hl
  have c4 := H.dx.hdr.cell (k := 4) rfl
  have ld := H.dx.hdr.lt
  have h1 := H.dx.row.one
  have HC := Lib.hid hc
  clear hc H
  go_enter Tryz.func40, Tryz.ntmps40
  go_wp2_with (go_at_call 100; (with_reducible refine HC.out.mono ?_); rintro e W1 ⟨⟨v, rfl, hv⟩, b1⟩; obtain ⟨a, c, rfl⟩ := hv.form; have HV := Lib.hid hv; clear hv)
  go_ret
  exact ⟨⟨_, rfl, HV.out⟩, b1⟩
end Go.Proofs.YtglohconhbcchaaGreatDoor

namespace Go.Proofs.YtglohconhbcchaaGreatDoor
open Go.RowKit Go.Shelf Go.Maps

theorem SX.val {w : World} {P : Pm} {A : GAd} {V V' : GVl} {S : SS} (h : SX w P A V S) (e1 : V'.pv = V.pv) (e2 : V'.pbs = V.pbs) (e3 : V'.bv = V.bv) : SX w P A V' S := by
  obtain ⟨a, b, c, d, e⟩ := V'
  obtain ⟨a', b', c', d', e'⟩ := V
  dsimp only at e1 e2 e3
  subst e1; subst e2; subst e3
  exact ⟨h.hdr, h.row, h.plen, h.pg, h.pnd, h.fl, h.back, h.tk, h.inv⟩
/-- integers, in a slice -/
def ints (v : Value) (l : List Int) : Thing where
  own k := v.ownBlock = some k
  so w := RowI w v l
  lt _ h k hk := h.lt' k hk
  keep _ _ h _ hk := h.keep hk
section
variable {w0 w : World} {A : GAd} {P : Pm} {V : GVl} {G : GS} {ts : List Thing}
/-- another TLB -/
theorem HG.setTlb (H : HG w0 w A P V G ts) {w' : World} (tv : Value) (l : List Hit) (ht : TX w' A P tv l) (K : Kept w.heap.size (TSet A.tp V.tv) w w') (ho : OwnN w V.tv tv) :
    HG w0 w' A P { V with tv := tv } { G with l := l } ts := by
  have h1 := Hold.step H 3 (tlbt A P tv l) rfl ht K (fun b hb => by
    rcases hb with e | e
    · exact .inl (.inl e)
    · rcases ho with x | x
      · exact .inl (.inr (x ▸ e))
      · exact .inr (x b e))
  have hs : SX w' P A V G.s := h1.at 2 rfl
  exact h1.weak 2 (stor A P { V with tv := tv } G.s) rfl (hs.val rfl rfl rfl) (fun _ h => h)
/-- another list of the loose -/
theorem HG.setLoose (H : HG w0 w A P V G ts) {w' : World} (u : Value) (l : List Int) (hd : DX w' A u l) (K : Kept w.heap.size (fun k => k = A.dp ∨ V.u.ownBlock = some k) w w') (ho : OwnN w V.u u) :
    HG w0 w' A P { V with u := u } { G with loose := l } ts := by
  have h1 := Hold.step H 4 (grd A u l) rfl hd K (fun b hb => by
    rcases hb with e | e
    · exact .inl (.inl e)
    · rcases ho with x | x
      · exact .inl (.inr (x ▸ e))
      · exact .inr (x b e))
  have hs : SX w' P A V G.s := h1.at 2 rfl
  exact h1.weak 2 (stor A P { V with u := u } G.s) rfl (hs.val rfl rfl rfl) (fun _ h => h)
theorem flush_h (H : HG w0 w A P V G ts) :
    Calls Tryz.prog 110 #[.pointer (some ⟨A.tp, 0, none⟩)] w
      fun e w' => (∃ r, e = .returned r) ∧ HG w0 w' A P { V with tv := .slice none 0 0 } { G with l := [] } ts := by
  refine (tlbAll_any w A.tp P.most V.tv G.l H.tx.t).mono ?_
  rintro e w' ⟨hr, ht, hk⟩
  exact ⟨hr, H.setTlb _ _ ⟨ht, by simp, H.tx.small⟩ hk (.inr fun k hk => by simp [Value.ownBlock] at hk)⟩
end
set_option maxRecDepth 100000 in
set_option maxHeartbeats 1000000 in
theorem zap_h {w0 w : World} {A : GAd} {P : Pm} {V : GVl} {G : GS} {ts : List Thing} (H : HG w0 w A P V G ts) (p i : Int) :
    Calls Tryz.prog 111 #[.pointer (some ⟨A.dp, 0, none⟩), .int .i64 p, .int .i64 i] w
      fun e w' => e = .returned (.bool (gzap G p i).1) ∧ ∃ V', HG w0 w' A P V' (gzap G p i).2 ts := by
  have hc := clear_h H p i
  have hp : gzap G p i = ((sclear G.s p i).1, if (sclear G.s p i).1 then ⟨(sclear G.s p i).2, [], G.loose⟩ else G) := rfl
  have hno : (sclear G.s p i).1 = false → (sclear G.s p i).2 = G.s := by
    unfold sclear
    split
    · split
      · exact fun _ => rfl
      · intro h; simp at h
    · exact fun _ => rfl
  rw [hp]
  obtain ⟨⟨b, S'⟩, hS⟩ : ∃ x, sclear G.s p i = x := ⟨_, rfl⟩
  rw [hS] at hc hno ⊢
  dsimp only at hc hno ⊢
  have c2 := H.dx.hdr.cell (k := 2) rfl
  have ld := H.dx.hdr.lt
  have HC := Lib.hid hc
  have HH := Lib.hid H
  clear hc H hp hS
  go_enter Tryz.func111, Tryz.ntmps111
  cases b
  · have e := hno rfl
    subst e
    go_wp2_with (go_at_call 114; (with_reducible refine HC.out.mono ?_); rintro e W1 ⟨rfl, h1⟩; have HH1 := Lib.hid h1; clear h1)
    go_ret
    exact ⟨rfl, V, HH1.out⟩
  · clear hno
    go_wp2_with (first
      | (go_at_call 114; (with_reducible refine HC.out.mono ?_); rintro e W1 ⟨rfl, h1⟩; have d3 := h1.dx.hdr.cell (k := 3) rfl; have ld1 := h1.dx.hdr.lt; have hf := flush_h h1; have HF := Lib.hid hf; clear h1 hf)
      | (go_at_call 110; (with_reducible refine HF.out.mono ?_); rintro e W2 ⟨⟨r, rfl⟩, h2⟩; have HH2 := Lib.hid h2; clear h2))
    go_ret
    exact ⟨rfl, _, HH2.out⟩
theorem sof_len {P : Pm} {S : SS} (h : SInv P S) (g : Int) : (sof S.ps g).length ≤ 1000 := by
  have := h.le
  unfold sof; rw [List.length_map]
  exact Nat.le_trans (List.length_filter_le _ _) (by omega)
theorem foldl_take {α β : Type} (f : β → α → β) (d : α) (b : β) (l : List α) (k : Nat) (hk : k < l.length) : (l.take (k + 1)).foldl f b = f ((l.take k).foldl f b) (l.getD k d) := by
  rw [List.take_add_one, List.getElem?_eq_getElem hk, List.foldl_append, List.getD, List.getElem?_eq_getElem hk]
  rfl
/-- a place of a slice of integers -/
theorem RowI.at {w : World} {v : Value} {l : List Int} (h : RowI w v l) (k : Nat) (hk : k < l.length) : ∃ b c, v = .slice (some ⟨b, 0, none⟩) l.length c ∧ b < w.heap.size ∧ w.cell? ⟨b, k, none⟩ = some (.int .i64 (l.getD k 0)) := by
  rcases h.view with ⟨rfl, rfl⟩ | ⟨g, cap, rest, rfl, hb, _, _, _⟩
  · simp at hk
  · exact ⟨g, cap, rfl, hb.lt, RowI.cell (n := 0) rfl hb k hk⟩
set_option maxRecDepth 100000 in
set_option maxHeartbeats 1000000 in
theorem word_h {w0 w : World} {A : GAd} {P : Pm} {V : GVl} {G : GS} {ts : List Thing} (H : HG w0 w A P V G ts) (g i : Int) :
    Calls Tryz.prog 57 #[.pointer (some ⟨A.dp, 0, none⟩), .int .i64 g, .int .i64 i] w
      fun e w' => (∃ r, e = .returned r) ∧ ∃ V', HG w0 w' A P V' (gword G g i) ts := by
  have hc := sof_any H.sx g
  have hle := sof_len H.inv g
  have c2 := H.dx.hdr.cell (k := 2) rfl
  have ld := H.dx.hdr.lt
  have hp : gword G g i = (sof G.s.ps g).foldl (fun G p => (gzap G p i).2) G := rfl
  rw [hp]
  obtain ⟨L, hL⟩ : ∃ L, sof G.s.ps g = L := ⟨_, rfl⟩
  rw [hL] at hc hle ⊢
  obtain ⟨n, hn⟩ : ∃ n, L.length = n := ⟨_, rfl⟩
  rw [hn] at hle
  have HC := Lib.hid hc
  have HH := Lib.hid H
  have HN := Lib.hid hn
  clear hc H hp hL hn
  go_enter Tryz.func57, Tryz.ntmps57
  go_wp2_with (go_at_call 70; (with_reducible refine HC.out.mono ?_); rintro e W1 ⟨⟨v, rfl, hv⟩, b1⟩; obtain ⟨a, c, rfl⟩ := hv.form; have h1 : HG w0 W1 A P V G (ints (.slice a L.length c) L :: ts) := HH.out.add b1 _ hv.row (fun b hb => hv.lo b hb); rw [HN.out] at h1 ⊢; have HH1 := Lib.hid h1; clear h1 hv)
  go_loopw [7, 15] (fun _ k wr => ∃ m : Nat, m ≤ n ∧ k = .int .i64 m ∧ ∃ V', HG w0 wr A P V' ((L.take m).foldl (fun G p => (gzap G p i).2) G) (ints (.slice a n c) L :: ts)) (fun _ k _ => n - (intOf k).toNat)
  case atStart => exact ⟨0, by omega, rfl, V, HH1.out⟩
  case round =>
    obtain ⟨m, hm, rfl, V', H3⟩ := hrel
    by_cases hmn : m < n
    · have hmL : m < L.length := by rw [HN.out]; exact hmn
      obtain ⟨bb, cc, hv, lb, d0⟩ := RowI.at (show RowI wr (.slice a n c) L from H3.top) m hmL
      rw [HN.out] at hv
      obtain ⟨rfl, rfl⟩ : a = some ⟨bb, 0, none⟩ ∧ c = cc := by injection hv with h1 h2 h3; exact ⟨h1, h3⟩
      have ht := foldl_take (fun (G : GS) p => (gzap G p i).2) 0 G L m hmL
      obtain ⟨x, hx⟩ : ∃ x, L.getD m 0 = x := ⟨_, rfl⟩
      rw [hx] at d0 ht
      have hz := zap_h H3 x i
      have HZ := Lib.hid hz
      have HT := Lib.hid ht
      clear hz H3 ht hx hv hmL
      go_wp2_with (go_at_call 111; (with_reducible refine HZ.out.mono ?_); rintro e W4 ⟨rfl, V4, h4⟩; have HH4 := Lib.hid h4; clear h4)
      go_roundw
      case rel => exact ⟨m + 1, by omega, by simp, V4, by rw [HT.out]; exact HH4.out⟩
      case measure => simp [intOf]; omega
    · obtain rfl : m = n := by omega
      rw [List.take_of_length_le (by rw [HN.out]; exact Nat.le_refl _)] at H3
      have HH3 := Lib.hid H3
      clear H3
      go_wp2
      refine bodyPost_end (results_none rfl _ _ _) rfl ⟨⟨_, rfl⟩, V', HH3.out.tail⟩
/-- the closure of tight -/
theorem tightq_any (w : World) (gb : Nat) (x g : Int) (hf : w.cell? ⟨gb, 0, none⟩ = some (.int .i64 g)) :
    Calls Tryz.prog 172 #[.int .i64 x, .pointer (some ⟨gb, 0, none⟩)] w fun e w' => e = .returned (.bool (decide (x = g))) ∧ Below w.heap.size w w' := by
  have hl' := lt_of_cell hf
  go_enter Tryz.func172, Tryz.ntmps172
  go_wp2_with fail
  go_ret
  exact ⟨by rw [ibeq]; rfl, Below.refl _ _⟩
set_option maxRecDepth 100000 in
set_option maxHeartbeats 1000000 in
theorem tight_h {w0 w : World} {A : GAd} {P : Pm} {V : GVl} {G : GS} {ts : List Thing} (H : HG w0 w A P V G ts) (g : Int) :
    Calls Tryz.prog 108 #[.pointer (some ⟨A.dp, 0, none⟩), .int .i64 g] w
      fun e w' => (∃ r, e = .returned r) ∧ ∃ V', HG w0 w' A P V' (gtight G g) ts := by
  have c4 := H.dx.hdr.cell (k := 4) rfl
  have ld := H.dx.hdr.lt
  have b0 := bal w (.cells #[.int .i64 g] 3)
  have hz := Blk.new w 3 [.int .i64 g]
  obtain ⟨wz, hwz⟩ : ∃ wz, w.alloc (.cells #[.int .i64 g] 3) = wz := ⟨_, rfl⟩
  rw [show (w.alloc (.cells [Value.int .i64 g].toArray 3)) = wz from hwz] at hz
  rw [hwz] at b0
  have H1 : HG w0 wz A P V G (ibox w.heap.size g :: ts) := H.add b0 (ibox w.heap.size g) hz (fun b e => Nat.le_of_eq e.symm)
  obtain ⟨zb, hzb⟩ : ∃ zb, w.heap.size = zb := ⟨_, rfl⟩
  rw [hzb] at hz H1
  have hd := H1.dx
  have hne : ¬ V.u.ownBlock = some zb := fun e => Hold.apart_of H1 (i := 4) (j := 5) rfl rfl (by decide) zb (.inr e) rfl
  have hnd : ¬ V.u.ownBlock = some A.dp := fun e => by
    obtain ⟨xs, hb⟩ := hd.row.own_blk e
    exact absurd (hd.hdr.inj hb).2 (by decide)
  have hde := delI_any wz V.u G.loose 172 #[.pointer (some ⟨zb, 0, none⟩)] (G.loose.map fun l => decide (l = g)) hd.row (by simp) (enters_of Tryz.func172 (by kernel_rfl) rfl) (fun k hk W hW => by
    have := tightq_any W zb (G.loose.getD k 0) g ((hz.kept hW hz.lt hne).cell (k := 0) rfl)
    rw [List.getD, List.getElem?_eq_getElem hk] at this
    rw [List.getD, List.getElem?_eq_getElem hk, List.getD, List.getElem?_map, List.getElem?_eq_getElem hk]
    exact this)
  rw [delB_filter] at hde
  have hhd := fun W (hW : Kept wz.heap.size (fun b => V.u.ownBlock = some b) wz W) => hd.hdr.kept hW hd.hdr.lt hnd
  have hone := hd.row.one
  have HD := Lib.hid hde
  have HHd := Lib.hid hhd
  have HH := Lib.hid H1
  have HW := Lib.hid hwz
  have HZB := Lib.hid hzb
  clear hde hhd hd H1 H hz hne hnd hwz hzb b0
  go_enter Tryz.func108, Tryz.ntmps108
  go_wp2_with (go_at_call 171; rw [HW.out, HZB.out]; (with_reducible refine HD.out.mono ?_); rintro e W1 ⟨v1, rfl, hr1, ho1, k1⟩; obtain ⟨a1, n1, c1, rfl⟩ : ∃ a n c, v1 = .slice a n c := by { rcases hr1.view with ⟨e, _⟩ | ⟨_, _, _, e, _⟩ <;> exact ⟨_, _, _, e⟩ }; have g1 := HHd.out W1 k1; have xf := fun k => g1.free k; have x4 := g1.cell (k := 4) rfl; have lx := g1.lt; have HR1 := Lib.hid hr1; have HO1 := Lib.hid ho1; have HK1 := Lib.hid k1; have G1 := Lib.hid g1; clear hr1 ho1 k1 g1)
  refine bodyPost_end (results_none rfl _ _ _) rfl ⟨⟨_, rfl⟩, { V with u := .slice a1 n1 c1 }, ?_⟩
  have hrow := RowI.other HR1.out G1.out (by decide) 4 (.slice a1 n1 c1)
  have hh := HH.out.setLoose (.slice a1 n1 c1) (G.loose.filter fun x => !decide (x = g)) ⟨G1.out.set 4 (.slice a1 n1 c1), hrow⟩ ((HK1.out.mono (Nat.le_refl _) (fun _ _ e => .inr e)).setCell (p := ⟨A.dp, 4, none⟩) (.inl (.inl rfl)) _) (.inl HO1.out)
  exact hh.tail
end Go.Proofs.YtglohconhbcchaaGreatDoor

namespace Go.Proofs.YtglohconhbcchaaGreatDoor
open Go.RowKit Go.Shelf Go.Maps

theorem info_w64 : (Tryz.prog.info? 24).map (fun i => (i.zero, i.size, i.bytes)) = some (some (.int .u64 0), 1, 8) := by kernel_rfl
def fwords (mem : List Nat) (f : Nat) : List Nat := (mem.drop (f * 8)).take 8
theorem wordI (w : World) (fp fb n : Nat) (mem : List Nat) (H : Host w fp fb n mem) (f i : Nat) (hf : f < n) (hi : i < 8) :
    Calls Tryz.prog 83 #[.pointer (some ⟨fp, 0, none⟩), .int .i64 (f : Int), .int .i64 (i : Int)] w fun e w' => e = .returned (.pointer (some ⟨fb, f * 8 + i, none⟩)) ∧ w = w' := by
  have c0 := H.hdr.cell (k := 0) rfl
  have l0 := H.hdr.lt
  have hs := H.small
  have hiz : (i : Int) < 8 := by omega
  clear H
  go_enter Tryz.func83, Tryz.ntmps83
  go_wp2
  go_ret
  exact ⟨by simp [Nat.add_comm], rfl⟩
set_option maxRecDepth 100000 in
set_option maxHeartbeats 2000000 in
theorem frameF (w : World) (fp fb n : Nat) (mem : List Nat) (H : Host w fp fb n mem) (f : Nat) (hf : f < n) :
    Calls Tryz.prog 29 #[.pointer (some ⟨fp, 0, none⟩), .int .i64 (f : Int)] w
      fun e w' => (∃ v, e = .returned v ∧ w'.ownsRow w.heap.size 24 1 v 8 ((fwords mem f).map u64)) ∧ Below w.heap.size w w' := by
  obtain ⟨i0, hi, hz0, hz1, hz2⟩ := info_parts info_w64
  have HH := Lib.hid H
  have H1 := Lib.hid hi
  have HZ0 := Lib.hid hz0
  have HZ1 := Lib.hid hz1
  have HZ2 := Lib.hid hz2
  clear H hi hz0 hz1 hz2
  go_enter Tryz.func29, Tryz.ntmps29
  go_wp2_with fail
  go_loopw [5, 6, 7, 8] (fun v _ _ i wr => ∃ j : Nat, j ≤ 8 ∧ i = .int .i64 j ∧ wr.ownsRow w.heap.size 24 1 v j (((mem.drop (f * 8)).take j).map u64) ∧ Below w.heap.size w wr) (fun _ _ _ i _ => 8 - (intOf i).toNat)
  case atStart => exact ⟨0, by omega, rfl, World.ownsRow_nil _ _ _ _, Below.refl _ _⟩
  case round =>
    obtain ⟨j, hj, rfl, hown, hB⟩ := hrel
    have hs1 := hB.size
    have HO := Lib.hid hown
    clear hown
    by_cases hj8 : j < 8
    · have hh := HH.out.past hB
      have hwd := wordI wr fp fb n mem hh f j hf hj8
      have hlt : f * 8 + j < mem.length := by rw [hh.len]; omega
      have hcol : ((mem.drop (f * 8)).take (j + 1)).map u64 = ((mem.drop (f * 8)).take j).map u64 ++ [.int .u64 ((mem.getD (f * 8 + j) 0 : Nat) : Int)] := by
        rw [List.take_add_one, List.map_append, List.getElem?_drop, List.getElem?_eq_getElem hlt, List.getD, List.getElem?_eq_getElem hlt]; rfl
      have c0 : wr.cell? ⟨fb, f * 8 + j, none⟩ = some (.int .u64 ((mem.getD (f * 8 + j) 0 : Nat) : Int)) := hh.row.cell (by rw [List.getElem?_map, List.getElem?_eq_getElem hlt, List.getD, List.getElem?_eq_getElem hlt]; rfl)
      have lf := hh.row.lt
      obtain ⟨x, hx⟩ : ∃ x, mem.getD (f * 8 + j) 0 = x := ⟨_, rfl⟩
      rw [hx] at hcol c0
      have HWd := Lib.hid hwd
      have HCl := Lib.hid hcol
      have hjz : (j : Int) < 8 := by omega
      clear hh hwd hcol hx hlt
      go_wp2_with (first
        | (go_at_call 83; (with_reducible refine HWd.out.mono ?_); rintro e w' ⟨rfl, rfl⟩)
        | (at_builtin; refine wpList_append_own _ rfl _ _ 80 rfl w.heap.size 24 i0 _ 1 8 Tryz.underlying80 H1.out HZ0.out HZ1.out HZ2.out rfl (by decide) _ _ _ rfl (HO.out.alloc _) ⟨wr.heap.size, 0, none⟩ 1 1 [.int .u64 (x : Int)] rfl rfl (cell_one_new _ _ _) (fun x hx => by simp at hx; subst hx; rfl) (by unfold maxLen; omega) (by omega) (by simp; omega) ?_; intro v' w3 hown' hgrow3 hnil3; have HO3 := Lib.hid hown'; have HG3 := Lib.hid hgrow3; clear hown' hgrow3 hnil3))
      go_roundw
      case rel =>
        refine ⟨j + 1, by omega, by simp, ?_, (hB.alloc hs1 _).grown HG3.out (by simp; omega) (fun r e => ?_)⟩
        · rw [HCl.out]; exact HO3.out
        · exact ((HO.out.alloc (.cells #[.int .u64 (x : Int)] 24)).lt r e).1
      case measure => simp [intOf]; omega
    · obtain rfl : j = 8 := by omega
      go_wp2_with fail
      go_ret
      exact ⟨⟨_, rfl, HO.out⟩, hB⟩
end Go.Proofs.YtglohconhbcchaaGreatDoor

namespace Go.Proofs.YtglohconhbcchaaGreatDoor
open Go.RowKit Go.Shelf Go.Maps

/-- a slice that is owned, or nil -/
def RowW (w : World) (v : Value) (l : List Nat) : Prop := w.ownsRow 0 24 1 v l.length (l.map u64)
theorem RowW.nil (w : World) : RowW w (.slice none 0 0) [] := World.ownsRow_nil _ _ _ _
theorem RowW.past {w w' : World} {v : Value} {l : List Nat} (h : RowW w v l) (hb : Below w.heap.size w w') : RowW w' v l := World.ownsRow.kept h (grownBy_of_below hb) (by cases v.ownBlock <;> simp)
theorem RowW.view {w : World} {v : Value} {l : List Nat} (h : RowW w v l) : (v = .slice none 0 0 ∧ l = []) ∨ ∃ g cap rest, v = .slice (some ⟨g, 0, none⟩) l.length cap ∧ Blk w g 24 (l.map u64 ++ rest) ∧ l.length ≤ cap ∧ cap ≤ maxLen ∧ l.length + rest.length = cap := by
  rcases h.2 with ⟨e1, e2⟩ | ⟨g, cap, cur, rfl, _, h3, h4, h5, h6, h7⟩
  · exact .inl ⟨e1, List.length_eq_zero_iff.1 e2⟩
  · rw [Nat.mul_one] at h6 h7
    refine .inr ⟨g, cap, cur.toList.drop l.length, rfl, ?_, h4, h5, ?_⟩
    · unfold Blk
      rw [h3, ← h7, List.take_append_drop]
    · have : cur.toList.length = cap := by simpa using h6
      rw [List.length_drop, this]
      omega
theorem RowW.at {w : World} {v : Value} {l : List Nat} (h : RowW w v l) (k : Nat) (hk : k < l.length) : ∃ b c, v = .slice (some ⟨b, 0, none⟩) l.length c ∧ b < w.heap.size ∧ w.cell? ⟨b, k, none⟩ = some (.int .u64 ((l.getD k 0 : Nat) : Int)) := by
  rcases h.view with ⟨rfl, rfl⟩ | ⟨g, cap, rest, rfl, hb, _, _, _⟩
  · simp at hk
  · exact ⟨g, cap, rfl, hb.lt, hb.cell (by rw [List.getElem?_append_left (by simpa using hk), List.getElem?_map, List.getElem?_eq_getElem hk, List.getD, List.getElem?_eq_getElem hk]; rfl)⟩
set_option maxRecDepth 100000 in
set_option maxHeartbeats 2000000 in
theorem sameW_any (w : World) (v1 v2 : Value) (l1 l2 : List Nat) (h1 : RowW w v1 l1) (h2 : RowW w v2 l2) :
    Calls Tryz.prog 31 #[v1, v2] w fun e w' => e = .returned (.bool (decide (l1 = l2))) ∧ Below w.heap.size w w' := by
  obtain ⟨a1, c1, rfl⟩ : ∃ a c, v1 = .slice a l1.length c := by
    rcases h1.view with ⟨rfl, rfl⟩ | ⟨g, cap, rest, rfl, _⟩
    · exact ⟨_, _, rfl⟩
    · exact ⟨_, _, rfl⟩
  obtain ⟨a2, c2, rfl⟩ : ∃ a c, v2 = .slice a l2.length c := by
    rcases h2.view with ⟨rfl, rfl⟩ | ⟨g, cap, rest, rfl, _⟩
    · exact ⟨_, _, rfl⟩
    · exact ⟨_, _, rfl⟩
  by_cases hlen : l1.length = l2.length
  · have hmx : l1.length ≤ 9223372036854775807 := by
      rcases h1.view with ⟨_, h⟩ | ⟨g, cap, rest, _, _, h3, h4, _⟩
      · rw [h]; simp
      · unfold maxLen at h4; omega
    obtain ⟨n, hn⟩ : ∃ n, l1.length = n := ⟨_, rfl⟩
    rw [hn] at hlen hmx
    have hc1 := fun W (hW : Below w.heap.size w W) k (hk : k < l1.length) => (h1.past hW).at k hk
    have hc2 := fun W (hW : Below w.heap.size w W) k (hk : k < l2.length) => (h2.past hW).at k hk
    rw [← hlen, hn]
    rw [hn] at hc1
    rw [← hlen] at hc2
    obtain ⟨r, hr⟩ : ∃ r, decide (l1 = l2) = r := ⟨_, rfl⟩
    rw [hr]
    have HC1 := Lib.hid hc1
    have HC2 := Lib.hid hc2
    have HN1 := Lib.hid hn
    have HN2 := Lib.hid hlen
    have HR := Lib.hid hr
    clear hc1 hc2 h1 h2 hn hlen hr
    go_enter Tryz.func31, Tryz.ntmps31
    go_wp2_with fail
    go_loopw [5] (fun i wr => ∃ k : Nat, k ≤ n ∧ i = .int .i64 k ∧ l1.take k = l2.take k ∧ Below w.heap.size w wr) (fun i _ => n - (intOf i).toNat)
    case atStart => exact ⟨0, by omega, rfl, rfl, Below.refl _ _⟩
    case round =>
      obtain ⟨k, hk, rfl, ht, hB⟩ := hrel
      by_cases hkn : k < n
      · obtain ⟨b1, d1, e1, lb1, x1⟩ := HC1.out wr hB k hkn
        obtain ⟨b2, d2, e2, lb2, x2⟩ := HC2.out wr hB k hkn
        obtain ⟨rfl, rfl⟩ : a1 = some ⟨b1, 0, none⟩ ∧ c1 = d1 := by injection e1 with h1 h2 h3; exact ⟨h1, h3⟩
        obtain ⟨rfl, rfl⟩ : a2 = some ⟨b2, 0, none⟩ ∧ c2 = d2 := by injection e2 with h1 h2 h3; exact ⟨h1, h3⟩
        have k1 : k < l1.length := by rw [HN1.out]; exact hkn
        have k2 : k < l2.length := by rw [← HN2.out]; exact hkn
        have hne : l1.getD k 0 ≠ l2.getD k 0 → r = false := fun h => by
          rw [← HR.out]; exact decide_eq_false fun e => h (by rw [e])
        have hst : l1.getD k 0 = l2.getD k 0 → l1.take (k + 1) = l2.take (k + 1) := fun h => by
          rw [List.take_add_one, List.take_add_one, ht, List.getElem?_eq_getElem k1, List.getElem?_eq_getElem k2]
          rw [List.getD, List.getD, List.getElem?_eq_getElem k1, List.getElem?_eq_getElem k2] at h
          simp only [Option.getD_some] at h
          rw [h]
        obtain ⟨y1, hy1⟩ : ∃ y, l1.getD k 0 = y := ⟨_, rfl⟩
        obtain ⟨y2, hy2⟩ : ∃ y, l2.getD k 0 = y := ⟨_, rfl⟩
        rw [hy1] at x1 hne hst
        rw [hy2] at x2 hne hst
        have HNe := Lib.hid hne
        have HSt := Lib.hid hst
        clear hne hst hy1 hy2 k1 k2 e1 e2 ht
        by_cases hy : y1 = y2
        · subst hy
          go_wp2_with fail
          go_quiet (fail)
          go_wp2_with fail
          go_roundw
          case rel => exact ⟨k + 1, by omega, by simp, HSt.out (by simp), hB.trans ((below_of_drewN wr _).mono hB.size)⟩
          case measure => simp [intOf]; omega
        · have f1 : ((y1 : Int) != (y2 : Int)) = true := bne_iff_ne.2 (by omega)
          go_wp2_with fail
          go_quiet (fail)
          go_wp2_with fail
          go_ret
          exact ⟨by rw [HNe.out hy]; rfl, hB.trans ((below_of_drewN wr _).mono hB.size)⟩
      · obtain rfl : k = n := by omega
        have hr : r = true := by
          rw [← HR.out]
          refine decide_eq_true ?_
          rw [List.take_of_length_le (by rw [HN1.out]; exact Nat.le_refl _), List.take_of_length_le (by rw [← HN2.out]; exact Nat.le_refl _)] at ht
          exact ht
        clear ht
        go_wp2_with fail
        go_ret
        exact ⟨by rw [hr]; rfl, hB⟩
  · have hd : decide (l1 = l2) = false := decide_eq_false fun e => hlen (by rw [e])
    rw [hd]
    have f1 : ((l1.length : Int) != (l2.length : Int)) = true := bne_iff_ne.2 (by omega)
    obtain ⟨n1, hn1⟩ : ∃ n, l1.length = n := ⟨_, rfl⟩
    obtain ⟨n2, hn2⟩ : ∃ n, l2.length = n := ⟨_, rfl⟩
    rw [hn1, hn2] at f1 ⊢
    clear hn1 hn2 h1 h2 hlen hd
    go_enter Tryz.func31, Tryz.ntmps31
    go_wp2_with fail
    go_ret
    exact ⟨rfl, Below.refl _ _⟩
end Go.Proofs.YtglohconhbcchaaGreatDoor

namespace Go.Proofs.YtglohconhbcchaaGreatDoor
open Go.RowKit Go.Shelf Go.Maps

set_option maxRecDepth 100000 in
set_option maxHeartbeats 2000000 in
theorem sameI_any (w : World) (v1 v2 : Value) (l1 l2 : List Int) (h1 : RowI w v1 l1) (h2 : RowI w v2 l2) :
    Calls Tryz.prog 30 #[v1, v2] w fun e w' => e = .returned (.bool (decide (l1 = l2))) ∧ Below w.heap.size w w' := by
  obtain ⟨a1, c1, rfl⟩ : ∃ a c, v1 = .slice a l1.length c := by
    rcases h1.view with ⟨rfl, rfl⟩ | ⟨g, cap, rest, rfl, _⟩
    · exact ⟨_, _, rfl⟩
    · exact ⟨_, _, rfl⟩
  obtain ⟨a2, c2, rfl⟩ : ∃ a c, v2 = .slice a l2.length c := by
    rcases h2.view with ⟨rfl, rfl⟩ | ⟨g, cap, rest, rfl, _⟩
    · exact ⟨_, _, rfl⟩
    · exact ⟨_, _, rfl⟩
  by_cases hlen : l1.length = l2.length
  · have hmx : l1.length ≤ 9223372036854775807 := by
      rcases h1.view with ⟨_, h⟩ | ⟨g, cap, rest, _, _, h3, h4, _⟩
      · rw [h]; simp
      · unfold maxLen at h4; omega
    obtain ⟨n, hn⟩ : ∃ n, l1.length = n := ⟨_, rfl⟩
    rw [hn] at hlen hmx
    have hc1 := fun W (hW : Below w.heap.size w W) k (hk : k < l1.length) => (h1.past hW).at k hk
    have hc2 := fun W (hW : Below w.heap.size w W) k (hk : k < l2.length) => (h2.past hW).at k hk
    rw [← hlen, hn]
    rw [hn] at hc1
    rw [← hlen] at hc2
    obtain ⟨r, hr⟩ : ∃ r, decide (l1 = l2) = r := ⟨_, rfl⟩
    rw [hr]
    have HC1 := Lib.hid hc1
    have HC2 := Lib.hid hc2
    have HN1 := Lib.hid hn
    have HN2 := Lib.hid hlen
    have HR := Lib.hid hr
    clear hc1 hc2 h1 h2 hn hlen hr
    go_enter Tryz.func30, Tryz.ntmps30
    go_wp2_with fail
    go_loopw [5] (fun i wr => ∃ k : Nat, k ≤ n ∧ i = .int .i64 k ∧ l1.take k = l2.take k ∧ Below w.heap.size w wr) (fun i _ => n - (intOf i).toNat)
    case atStart => exact ⟨0, by omega, rfl, rfl, Below.refl _ _⟩
    case round =>
      obtain ⟨k, hk, rfl, ht, hB⟩ := hrel
      by_cases hkn : k < n
      · obtain ⟨b1, d1, e1, lb1, x1⟩ := HC1.out wr hB k hkn
        obtain ⟨b2, d2, e2, lb2, x2⟩ := HC2.out wr hB k hkn
        obtain ⟨rfl, rfl⟩ : a1 = some ⟨b1, 0, none⟩ ∧ c1 = d1 := by injection e1 with h1 h2 h3; exact ⟨h1, h3⟩
        obtain ⟨rfl, rfl⟩ : a2 = some ⟨b2, 0, none⟩ ∧ c2 = d2 := by injection e2 with h1 h2 h3; exact ⟨h1, h3⟩
        have k1 : k < l1.length := by rw [HN1.out]; exact hkn
        have k2 : k < l2.length := by rw [← HN2.out]; exact hkn
        have hne : l1.getD k 0 ≠ l2.getD k 0 → r = false := fun h => by
          rw [← HR.out]; exact decide_eq_false fun e => h (by rw [e])
        have hst : l1.getD k 0 = l2.getD k 0 → l1.take (k + 1) = l2.take (k + 1) := fun h => by
          rw [List.take_add_one, List.take_add_one, ht, List.getElem?_eq_getElem k1, List.getElem?_eq_getElem k2]
          rw [List.getD, List.getD, List.getElem?_eq_getElem k1, List.getElem?_eq_getElem k2] at h
          simp only [Option.getD_some] at h
          rw [h]
        obtain ⟨y1, hy1⟩ : ∃ y, l1.getD k 0 = y := ⟨_, rfl⟩
        obtain ⟨y2, hy2⟩ : ∃ y, l2.getD k 0 = y := ⟨_, rfl⟩
        rw [hy1] at x1 hne hst
        rw [hy2] at x2 hne hst
        have HNe := Lib.hid hne
        have HSt := Lib.hid hst
        clear hne hst hy1 hy2 k1 k2 e1 e2 ht
        by_cases hy : y1 = y2
        · subst hy
          go_wp2_with fail
          go_quiet (fail)
          go_wp2_with fail
          go_roundw
          case rel => exact ⟨k + 1, by omega, by simp, HSt.out (by simp), hB.trans ((below_of_drewN wr _).mono hB.size)⟩
          case measure => simp [intOf]; omega
        · have f1 : (y1 != y2) = true := bne_iff_ne.2 hy
          go_wp2_with fail
          go_quiet (fail)
          go_wp2_with fail
          go_ret
          exact ⟨by rw [HNe.out hy]; rfl, hB.trans ((below_of_drewN wr _).mono hB.size)⟩
      · obtain rfl : k = n := by omega
        have hr : r = true := by
          rw [← HR.out]
          refine decide_eq_true ?_
          rw [List.take_of_length_le (by rw [HN1.out]; exact Nat.le_refl _), List.take_of_length_le (by rw [← HN2.out]; exact Nat.le_refl _)] at ht
          exact ht
        clear ht
        go_wp2_with fail
        go_ret
        exact ⟨by rw [hr]; rfl, hB⟩
  · have hd : decide (l1 = l2) = false := decide_eq_false fun e => hlen (by rw [e])
    rw [hd]
    have f1 : ((l1.length : Int) != (l2.length : Int)) = true := bne_iff_ne.2 (by omega)
    obtain ⟨n1, hn1⟩ : ∃ n, l1.length = n := ⟨_, rfl⟩
    obtain ⟨n2, hn2⟩ : ∃ n, l2.length = n := ⟨_, rfl⟩
    rw [hn1, hn2] at f1 ⊢
    clear hn1 hn2 h1 h2 hlen hd
    go_enter Tryz.func30, Tryz.ntmps30
    go_wp2_with fail
    go_ret
    exact ⟨rfl, Below.refl _ _⟩
end Go.Proofs.YtglohconhbcchaaGreatDoor
