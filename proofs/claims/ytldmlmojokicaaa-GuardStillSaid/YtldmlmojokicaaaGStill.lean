/- GuardStill's walk. -/
import Derived.Test.YtldmlmojokicaaaGlaw
import Derived.Test.YtldmlmojokicaaaStF
import Derived.Laws.StructEq
namespace Go.Proofs.Ytldmlmojokicaaa
open Go.RowKit Go.Shelf Go.Maps
theorem RowW.keep {w w' : World} {v : Value} {l : List Nat} (h : RowW w v l) (hk : ∀ b, v.ownBlock = some b → w'.heap[b]? = w.heap[b]?) : RowW w' v l := by
  rcases h.view with ⟨rfl, rfl⟩ | ⟨g, cap, rest, rfl, hb, h1, h2, h3⟩
  · exact RowW.nil _
  · refine ⟨by simp, .inr ⟨g, cap, (l.map u64 ++ rest).toArray, rfl, Nat.zero_le _, hb.of_heap (hk g rfl), h1, h2, ?_, ?_⟩⟩
    · simp; omega
    · simp
theorem RowW.lt' {w : World} {v : Value} {l : List Nat} (h : RowW w v l) : ∀ b, v.ownBlock = some b → b < w.heap.size := by
  rcases h.view with ⟨rfl, rfl⟩ | ⟨g, cap, rest, rfl, hb, h1, h2, h3⟩
  · intro b hb; simp [Value.ownBlock] at hb
  · intro b hb'; simp [Value.ownBlock] at hb'; subst hb'; exact hb.lt
theorem RowW.of {w : World} {b0 : Nat} {v : Value} {l : List Nat} {n : Nat} (hn : l.length = n) (h : w.ownsRow b0 40 1 v n (l.map u64)) : RowW w v l ∧ ∀ b, v.ownBlock = some b → b0 ≤ b := by
  subst hn
  rcases h.2 with ⟨e1, e2⟩ | ⟨g, cap, cur, rfl, h2, h3⟩
  · subst e1
    exact ⟨⟨h.1, .inl ⟨rfl, e2⟩⟩, fun b hb => by simp [Value.ownBlock] at hb⟩
  · exact ⟨⟨h.1, .inr ⟨g, cap, cur, rfl, Nat.zero_le _, h3⟩⟩, fun b hb => by simp [Value.ownBlock] at hb; omega⟩
theorem own_form {w : World} {b0 n : Nat} {v : Value} {xs : List Value} (h : w.ownsRow b0 40 1 v n xs) : ∃ a c, v = .slice a n c := by
  rcases h.2 with ⟨e1, e2⟩ | ⟨g, cap, cur, rfl, _⟩
  · rw [e1, e2]; exact ⟨_, _, rfl⟩
  · exact ⟨_, _, rfl⟩
def nilS : Value := .slice none 0 0
/-- the block of slices, with the first k rows in it -/
def wasT (tb : Nat) (vs : List Value) (k : Nat) (fw : Nat → List Nat) : Thing where
  own x := x = tb ∨ ∃ j, j < k ∧ (vs.getD j nilS).ownBlock = some x
  so w := Blk w tb 80 vs ∧ vs.length = 40 ∧ ∀ j, j < k → RowW w (vs.getD j nilS) (fw j) ∧ (vs.getD j nilS).ownBlock ≠ some tb
  lt w h b hb := by
    rcases hb with e | ⟨j, hj, e⟩
    · subst e; exact h.1.lt
    · exact (h.2.2 j hj).1.lt' b e
  keep w w' h _ hk := ⟨h.1.of_heap (hk _ (.inl rfl)), h.2.1, fun j hj => ⟨(h.2.2 j hj).1.keep fun b e => hk b (.inr ⟨j, hj, e⟩), (h.2.2 j hj).2⟩⟩
theorem getD_set_eq {vs : List Value} {k : Nat} (hk : k < vs.length) (v d : Value) : (vs.set k v).getD k d = v := by
  rw [List.getD, List.getElem?_set_self hk]; rfl
theorem getD_set_ne {vs : List Value} {k j : Nat} (h : k ≠ j) (v d : Value) : (vs.set k v).getD j d = vs.getD j d := by
  rw [List.getD, List.getD, List.getElem?_set_ne h]
theorem was_put {w0 w w2 : World} {A : GAd} {P : Pm} {V : GVl} {G : GS} {ts : List Thing} {tb : Nat} {vs : List Value} {k : Nat} {fw : Nat → List Nat} (H : HG w0 w A P V G (wasT tb vs k fw :: ts)) (b2 : Below w.heap.size w w2) (hk : k < 40) {v : Value} (hv : w2.ownsRow w.heap.size 40 1 v 8 ((fw k).map u64)) (h8 : (fw k).length = 8) :
    HG w0 (w2.setCell ⟨tb, k, none⟩ v) A P V G (wasT tb (vs.set k v) (k + 1) fw :: ts) := by
  obtain ⟨r1, r2⟩ := RowW.of h8 hv
  have hs : (wasT tb vs k fw).so w := Hold.at H 5 rfl
  obtain ⟨q1, q2, q3⟩ := hs
  have ht := q1.lt
  have hne : v.ownBlock ≠ some tb := fun e => by have := r2 tb e; omega
  have hso : (wasT tb (vs.set k v) (k + 1) fw).so (w2.setCell ⟨tb, k, none⟩ v) := by
    refine ⟨(q1.past b2).set k v, by simpa using q2, fun j hj => ?_⟩
    have hset : ∀ b, b ≠ tb → (w2.setCell ⟨tb, k, none⟩ v).heap[b]? = w2.heap[b]? := fun b hb => (Kept.setCell (S := fun x => x = tb) (Kept.refl (b + 1) _ w2) (p := ⟨tb, k, none⟩) (.inl rfl) v).block b (Nat.lt_succ_self b) hb
    by_cases hjk : k = j
    · subst hjk
      rw [getD_set_eq (by omega)]
      exact ⟨r1.keep fun b e => hset b fun e' => hne (e' ▸ e), hne⟩
    · rw [getD_set_ne hjk]
      obtain ⟨g1, g2⟩ := q3 j (by omega)
      exact ⟨(g1.past b2).keep fun b e => hset b fun e' => g2 (e' ▸ e), g2⟩
  refine Hold.step H 5 (wasT tb (vs.set k v) (k + 1) fw) rfl hso ((Kept.of_below b2).setCell (.inl (.inl rfl)) v) fun b hb => ?_
  rcases hb with e | ⟨j, hj, e⟩
  · exact .inl (.inl e)
  · by_cases hjk : k = j
    · subst hjk
      rw [getD_set_eq (by omega)] at e
      exact .inr (r2 b e)
    · rw [getD_set_ne hjk] at e
      exact .inl (.inr ⟨j, by omega, e⟩)
theorem HG.was {w0 w : World} {A : GAd} {P : Pm} {V : GVl} {G : GS} {ts : List Thing} {tb : Nat} {vs : List Value} {k : Nat} {fw : Nat → List Nat} {t : Thing} (H : HG w0 w A P V G (t :: wasT tb vs k fw :: ts)) : (wasT tb vs k fw).so w := Hold.at H 6 rfl
theorem HG.was0 {w0 w : World} {A : GAd} {P : Pm} {V : GVl} {G : GS} {ts : List Thing} {tb : Nat} {vs : List Value} {k : Nat} {fw : Nat → List Nat} (H : HG w0 w A P V G (wasT tb vs k fw :: ts)) : (wasT tb vs k fw).so w := Hold.at H 5 rfl
theorem fwords_len {mem : List Nat} (hm : mem.length = 320) (f : Nat) (hf : f < 40) : (fwords mem f).length = 8 := by
  unfold fwords; rw [List.length_take, List.length_drop]; omega
theorem srun_take (P : Pm) (G : GS) (l : List Opg) (k : Nat) (hk : k < l.length) : srun P G (l.take (k + 1)) = if (l.getD k opg0).k = 12 then srun P G (l.take k) else (gdo P (srun P G (l.take k)) (l.getD k opg0)).2 :=
  foldl_take (fun (G : GS) (o : Opg) => if o.k = 12 then G else (gdo P G o).2) opg0 G l k hk
theorem was_new {w0 w : World} {A : GAd} {P : Pm} {V : GVl} {G : GS} {ts : List Thing} (H : HG w0 w A P V G ts) (fw : Nat → List Nat) :
    HG w0 (w.alloc (.cells (List.replicate 40 nilS).toArray 80)) A P V G (wasT w.heap.size (List.replicate 40 nilS) 0 fw :: ts) :=
  H.add (bal w _) (wasT w.heap.size (List.replicate 40 nilS) 0 fw) ⟨Blk.new w _ _, by simp, fun j hj => by omega⟩ fun b hb => by
    rcases hb with e | ⟨j, hj, _⟩
    · exact Nat.le_of_eq e.symm
    · omega
set_option maxRecDepth 100000 in
set_option maxHeartbeats 4000000 in
theorem GuardStill_walk (w : World) (a : Option Addr) (c : Nat) (l : List (Int × Int × Nat)) (hp : Ps w a l) (hlen : l.length ≤ 9223372036854775807) (oa : Option Addr) (oc : Nat) (ops : List Opg) (hop : Gops w oa ops) (holen : ops.length ≤ 9223372036854775807) :
    Calls Try.prog 9 #[.slice a l.length c, .slice oa ops.length oc] w fun e w' => e = .returned (.bool true) ∧ Below w.heap.size w w' := by
  have hh := ghead_any w
  obtain ⟨len, hl⟩ : ∃ len, l.length = len := ⟨_, rfl⟩
  obtain ⟨on, hol⟩ : ∃ n, ops.length = n := ⟨_, rfl⟩
  obtain ⟨G0, hG0⟩ : ∃ G, G24 (gputs l) = G := ⟨_, rfl⟩
  have hI0 : GInv P24 G0 := hG0 ▸ G24_inv _ (gputs_len l)
  have hm : ∀ W, Below w.heap.size w W → Calls Try.prog 11 #[.slice a len c] W fun e w' => ∃ wb A, e = .returned (.pointer (some ⟨wb, 0, none⟩)) ∧ HG w w' A P24 V24 G0 [wld wb A] := fun W b => by
    have h := gmade_any W a c l (hp.below b) hlen
    rw [hl, hG0] at h
    exact h.mono fun e w' ⟨wb, A, he, H⟩ => ⟨wb, A, he, H.base b⟩
  rw [hl] at hlen ⊢
  rw [hol] at holen ⊢
  have hgr := fun W => great_any W a oa c oc len on hlen holen
  obtain ⟨gr, hgr'⟩ : ∃ b, (decide (600 < len) || decide (120 < on)) = b := ⟨_, rfl⟩
  rw [hgr'] at hgr
  have HH := Lib.hid hh
  have HM := Lib.hid hm
  have HGr := Lib.hid hgr
  have HI0 := Lib.hid hI0
  have HOp := Lib.hid hop
  have HOl := Lib.hid hol
  clear hh hm hgr hI0 hop hol hp hl hG0 hgr' hlen
  cases gr with
  | true =>
    go_enter Try.func9, Try.ntmps9
    go_wp2_with (first
      | (go_at_call 10; (with_reducible refine HH.out.mono ?_); rintro e W0 ⟨rfl, b0⟩)
      | (go_at_call 11; (with_reducible refine (HM.out _ b0).mono ?_); rintro e W1 ⟨wb, A, rfl, H1⟩; clear b0)
      | (go_at_call 12; (with_reducible refine (HGr.out W1).mono ?_); rintro e W2 ⟨rfl, rfl⟩))
    go_ret
    exact ⟨rfl, H1.below⟩
  | false =>
    go_enter Try.func9, Try.ntmps9
    go_wp2_with (first
      | (go_at_call 10; (with_reducible refine HH.out.mono ?_); rintro e W0 ⟨rfl, b0⟩)
      | (go_at_call 11; (with_reducible refine (HM.out _ b0).mono ?_); rintro e W1 ⟨wb, A, rfl, H1⟩; clear b0)
      | (go_at_call 12; (with_reducible refine (HGr.out W1).mono ?_); rintro e W2 ⟨rfl, rfl⟩))
    clear HM HGr HH
    have H2 := was_new H1 (fwords G0.s.mem)
    have l1 := H1.wd.lt
    obtain ⟨tb, htb⟩ : ∃ b, W1.heap.size = b := ⟨_, rfl⟩
    obtain ⟨W2, hW2⟩ : ∃ W', W1.alloc (.cells (List.replicate 40 nilS).toArray 80) = W' := ⟨_, rfl⟩
    rw [hW2, htb] at H2
    go_upto_region 6 with (fail)
    rw [show W1.alloc (.cells #[.slice none 0 0, .slice none 0 0, .slice none 0 0, .slice none 0 0, .slice none 0 0, .slice none 0 0, .slice none 0 0, .slice none 0 0, .slice none 0 0, .slice none 0 0, .slice none 0 0, .slice none 0 0, .slice none 0 0, .slice none 0 0, .slice none 0 0, .slice none 0 0, .slice none 0 0, .slice none 0 0, .slice none 0 0, .slice none 0 0, .slice none 0 0, .slice none 0 0, .slice none 0 0, .slice none 0 0, .slice none 0 0, .slice none 0 0, .slice none 0 0, .slice none 0 0, .slice none 0 0, .slice none 0 0, .slice none 0 0, .slice none 0 0, .slice none 0 0, .slice none 0 0, .slice none 0 0, .slice none 0 0, .slice none 0 0, .slice none 0 0, .slice none 0 0, .slice none 0 0] 80) = W2 from hW2, htb]
    clear H1 hW2 htb l1
    have HL := Lib.hid (show G0.s.mem.length = 320 from HI0.out.s.len)
    have HI := HI0
    go_loopw [8] (fun i wr => ∃ k : Nat, k ≤ 40 ∧ i = .int .i64 k ∧ ∃ vs, HG w wr A P24 V24 G0 [wasT tb vs k (fwords G0.s.mem), wld wb A]) (fun i _ => 40 - (intOf i).toNat)
    case atStart => exact ⟨0, by omega, rfl, _, H2⟩
    case round =>
      obtain ⟨k, hk, rfl, vs, H⟩ := hrel
      clear H2
      by_cases hk4 : k < 40
      · have hf := frameF wr A.fp A.fb 40 G0.s.mem H.host k hk4
        have d0 := H.wd2.cell (k := 0) rfl
        have dl := H.wd2.lt
        have hB := H.was0.1
        have h40 := H.was0.2.1
        have tl := hB.lt
        have hput := fun w2 v b hv => was_put H (w2 := w2) (v := v) b hk4 hv (fwords_len HL.out k hk4)
        have hcell : vs[k]? = some (vs.getD k nilS) := by rw [List.getD, List.getElem?_eq_getElem (by omega)]; rfl
        obtain ⟨old, hold⟩ : ∃ v, vs.getD k nilS = v := ⟨_, rfl⟩
        rw [hold] at hcell
        have hkz : (k : Int) < 40 := by omega
        have HF := Lib.hid hf
        have HB := Lib.hid hB
        have HC := Lib.hid hcell
        have HP := Lib.hid hput
        clear hf hB hcell hput H hold h40
        go_wp2_with (go_at_call 35; (with_reducible refine HF.out.mono ?_); rintro e W3 ⟨⟨v, rfl, hv⟩, b3⟩; obtain ⟨a3, c3, rfl⟩ := own_form hv; have hB3 := HB.out.past b3; have t0 := hB3.cell (k := k) HC.out; have tl3 := hB3.lt; have tf := hB3.free; have H3 := Lib.hid (HP.out W3 _ b3 hv); clear hv b3 hB3)
        go_roundw
        case rel => exact ⟨k + 1, by omega, by simp, _, H3.out⟩
        case measure => simp [intOf]; omega
      · have hk40 : k = 40 := by omega
        have fk40 : decide ((k : Int) < 40) = false := decide_eq_false (by omega)
        rw [hk40] at H
        clear hk hk4 hk40
        have H4 := H.swap
        clear H
        have V0 : GVl := V24
        clear V0
        go_wp2_with fail
        go_loopw [9] (fun i wr => ∃ k : Nat, k ≤ on ∧ i = .int .i64 k ∧ ∃ V, HG w wr A P24 V (srun P24 G0 (ops.take k)) [wld wb A, wasT tb vs 40 (fwords G0.s.mem)]) (fun i _ => on - (intOf i).toNat)
        case atStart => exact ⟨0, by omega, rfl, _, H4⟩
        case round =>
          obtain ⟨k, hk, rfl, V, H⟩ := hrel
          clear H4
          by_cases hkl : k < on
          · obtain ⟨b, off, ok, okg, okv, okr, op, oi, og, ow, ou, ox, ov, rfl, lb, ho, hov, C0, C1, C2, C3, C4, C5, C6, C7, C8, C9, C10⟩ := HOp.out.at k (by rw [HOl.out]; exact hkl)
            have HC0 := Lib.hid C0
            have HC1 := Lib.hid C1
            have HC2 := Lib.hid C2
            have HC3 := Lib.hid C3
            have HC4 := Lib.hid C4
            have HC5 := Lib.hid C5
            have HC6 := Lib.hid C6
            have HC7 := Lib.hid C7
            have HC8 := Lib.hid C8
            have HC9 := Lib.hid C9
            have HC10 := Lib.hid C10
            have HOv := Lib.hid hov
            clear C0 C1 C2 C3 C4 C5 C6 C7 C8 C9 C10 hov

            obtain ⟨Gk, hGk⟩ : ∃ G, srun P24 G0 (ops.take k) = G := ⟨_, rfl⟩
            have hIk : GInv P24 Gk := hGk ▸ srun_inv HI0.out _
            have hn := srun_take P24 G0 ops k (by rw [HOl.out]; exact hkl)
            rw [ho, hGk] at hn
            dsimp only at hn
            rw [hGk] at H
            have hd := gdo24 H hIk ok okg okv okr op oi og ow ou ox ov HOv.out
            have HD := Lib.hid hd
            have HN := Lib.hid hn
            have c0 := (H.below.cell (p := ⟨b, _, none⟩) lb).trans HC0.out
            have c1 := (H.below.cell (p := ⟨b, _, none⟩) lb).trans HC1.out
            have c2 := (H.below.cell (p := ⟨b, _, none⟩) lb).trans HC2.out
            have c3 := (H.below.cell (p := ⟨b, _, none⟩) lb).trans HC3.out
            have c4 := (H.below.cell (p := ⟨b, _, none⟩) lb).trans HC4.out
            have c5 := (H.below.cell (p := ⟨b, _, none⟩) lb).trans HC5.out
            have c6 := (H.below.cell (p := ⟨b, _, none⟩) lb).trans HC6.out
            have c7 := (H.below.cell (p := ⟨b, _, none⟩) lb).trans HC7.out
            have c8 := (H.below.cell (p := ⟨b, _, none⟩) lb).trans HC8.out
            have c9 := (H.below.cell (p := ⟨b, _, none⟩) lb).trans HC9.out
            have c10 := (H.below.cell (p := ⟨b, _, none⟩) lb).trans HC10.out
            have HH := Lib.hid H
            clear H hd hn hIk hGk ho
            by_cases hk12 : ok = 12
            · subst hk12
              go_wp2_with fail
              go_roundw
              case rel => exact ⟨k + 1, by omega, by simp, V, by rw [HN.out, if_pos rfl]; exact HH.out⟩
              case measure => simp [intOf]; omega
            · have f12 : (ok != 12) = true := bne_iff_ne.2 hk12
              go_wp2_with (go_at_call 14; (with_reducible refine HD.out.mono ?_); rintro e W3 ⟨⟨x3, rfl⟩, V3, h3⟩; have H3 := Lib.hid h3; clear h3)
              go_roundw
              case rel => exact ⟨k + 1, by omega, by simp, V3, by rw [HN.out, if_neg hk12]; exact H3.out⟩
              case measure => simp [intOf]; omega
          · obtain rfl : on = k := by omega
            rw [show ops.take on = ops from by rw [← HOl.out, List.take_length]] at H
            clear hkl hk
            go_wp2_with fail
            have hfar := srun_far HI0.out ops
            have H5 := H.swap
            have HFar := Lib.hid hfar
            obtain ⟨G, hG⟩ : ∃ G, srun P24 G0 ops = G := ⟨_, rfl⟩
            rw [hG] at HFar H5
            have HLG := Lib.hid (show G.s.mem.length = 320 from H5.sx.inv.len)
            clear H hfar hG HOp
            go_loopw [10] (fun i wr => ∃ f : Nat, f ≤ 40 ∧ i = .int .i64 f ∧ HG w wr A P24 V G [wasT tb vs 40 (fwords G0.s.mem), wld wb A]) (fun i _ => 40 - (intOf i).toNat)
            case atStart => exact ⟨0, by omega, rfl, H5⟩
            case round =>
              obtain ⟨f, hf, rfl, H⟩ := hrel
              clear H5
              by_cases hf4 : f < 40
              · have hfz : (f : Int) < 40 := by omega
                by_cases hr : f < 4 ∨ 12 ≤ f
                · have hfr := fun W (hW : Below wr.heap.size wr W) => frameF W A.fp A.fb 40 G.s.mem (H.past hW).host f hf4
                  have heq := fwords_far HFar.out f hr
                  rw [heq] at hfr
                  have hw2 := (H.was0.2.2 f hf4).1
                  have d0 := H.wd2.cell (k := 0) rfl
                  have dl := H.wd2.lt
                  have hB := H.was0.1
                  have h40 := H.was0.2.1
                  have tl := hB.lt
                  have hcell : vs[f]? = some (vs.getD f nilS) := by rw [List.getD, List.getElem?_eq_getElem (by omega)]; rfl
                  obtain ⟨v2, hv2⟩ : ∃ v, vs.getD f nilS = v := ⟨_, rfl⟩
                  rw [hv2] at hcell hw2
                  have t0 := hB.cell (k := f) hcell
                  have hl8 : (fwords G0.s.mem f).length = 8 := fwords_len HL.out f hf4
                  have hsw := fun W v1 (hW : Below wr.heap.size wr W) (h1 : RowW W v1 (fwords G0.s.mem f)) => sameW_any W v1 v2 _ _ h1 (hw2.past hW)
                  rw [decide_eq_true rfl] at hsw
                  have HFr := Lib.hid hfr
                  have HSw := Lib.hid hsw
                  have H8 := Lib.hid hl8
                  have HB := Lib.hid hB
                  have HD := Lib.hid H.wd2
                  have HC := Lib.hid hcell
                  have HH := Lib.hid H
                  clear hfr heq hw2 hB hcell hv2 hl8 hsw H h40
                  rcases hr with hr | hr
                  · have f1 : decide ((f : Int) < 4) = true := decide_eq_true (by omega)
                    go_wp2_with fail
                    refine wp_region_held_drew (S := (fun w' => w'.cell? ⟨wb, 0, none⟩ = some (.pointer (some ⟨A.fp, 0, none⟩)) ∧ w'.cell? ⟨tb, f, none⟩ = some v2)) (by kernel_rfl) (by (try dsimp only); go_keep) (fun hHeld => ?_)
                    refine' wpAnyH_take (i := 0) (v := _) rfl (by kernel_rfl) (by kernel_rfl) (by kernel_rfl) (fun _ _ _ h => h) (Or.inl ⟨by with_unfolding_all rfl, ?_⟩) (by assumption) ?_
                    rotate_left
                    focus (intro w hSw; (try dsimp only at hSw); go_simp; try (with_reducible rfl))
                    try simp only [List.getElem_toArray, List.getElem_cons_zero, Act.put, List.setIfInBounds_toArray, List.set_cons_zero, List.set_cons_succ]
                    refine' wpAnyH_take (i := 1) (v := _) rfl (by kernel_rfl) (by kernel_rfl) (by kernel_rfl) (fun _ _ _ h => h) (Or.inl ⟨by with_unfolding_all rfl, ?_⟩) (by assumption) ?_
                    rotate_left
                    focus (intro w hSw; (try dsimp only at hSw); go_simp; try (with_reducible rfl))
                    try simp only [List.getElem_toArray, List.getElem_cons_zero, List.getElem_cons_succ, Act.put, List.setIfInBounds_toArray, List.set_cons_zero, List.set_cons_succ]
                    refine' wpAnyH_take (i := 2) (v := _) rfl (by kernel_rfl) (by kernel_rfl) (by kernel_rfl) (fun _ _ _ h => h) (Or.inl ⟨by with_unfolding_all rfl, ?_⟩) (by assumption) ?_
                    rotate_left
                    focus (intro w hSw; (try dsimp only at hSw); go_simp; try (with_reducible rfl))
                    try simp only [List.getElem_toArray, List.getElem_cons_zero, List.getElem_cons_succ, Act.put, List.setIfInBounds_toArray, List.set_cons_zero, List.set_cons_succ]
                    refine wpAnyH_take (i := 3) (v := undef) rfl (by kernel_rfl) (by kernel_rfl) (by kernel_rfl) (fun _ _ _ h => h) (Or.inr ⟨by with_unfolding_all rfl, rfl⟩) (by assumption) ?_
                    try simp only [List.getElem_toArray, List.getElem_cons_zero, List.getElem_cons_succ, Act.put, List.setIfInBounds_toArray, List.set_cons_zero, List.set_cons_succ]
                    refine wpAnyH_take (i := 4) (v := undef) rfl (by kernel_rfl) (by kernel_rfl) (by kernel_rfl) (fun _ _ _ h => h) (Or.inr ⟨by with_unfolding_all rfl, rfl⟩) (by assumption) ?_
                    try simp only [List.getElem_toArray, List.getElem_cons_zero, List.getElem_cons_succ, Act.put, List.setIfInBounds_toArray, List.set_cons_zero, List.set_cons_succ]
                    refine' wpAnyH_take (i := 5) (v := _) rfl (by kernel_rfl) (by kernel_rfl) (by kernel_rfl) (fun _ _ _ h => h) (Or.inl ⟨by with_unfolding_all rfl, ?_⟩) (by assumption) ?_
                    rotate_left
                    focus (intro w hSw; (try dsimp only at hSw); go_simp; try (with_reducible rfl))
                    try simp only [List.getElem_toArray, List.getElem_cons_zero, List.getElem_cons_succ, Act.put, List.setIfInBounds_toArray, List.set_cons_zero, List.set_cons_succ]
                    refine' wpAnyH_take (i := 6) (v := _) rfl (by kernel_rfl) (by kernel_rfl) (by kernel_rfl) (fun _ _ _ h => h) (Or.inl ⟨by with_unfolding_all rfl, ?_⟩) (by assumption) ?_
                    rotate_left
                    focus (intro w hSw; (try dsimp only at hSw); go_simp; try (with_reducible rfl))
                    try simp only [List.getElem_toArray, List.getElem_cons_zero, List.getElem_cons_succ, Act.put, List.setIfInBounds_toArray, List.set_cons_zero, List.set_cons_succ]
                    refine' wpAnyH_take (i := 7) (v := _) rfl (by kernel_rfl) (by kernel_rfl) (by kernel_rfl) (fun _ _ _ h => h) (Or.inl ⟨by with_unfolding_all rfl, ?_⟩) (by assumption) ?_
                    rotate_left
                    focus (intro w hSw; (try dsimp only at hSw); go_simp; try (with_reducible rfl))
                    try simp only [List.getElem_toArray, List.getElem_cons_zero, List.getElem_cons_succ, Act.put, List.setIfInBounds_toArray, List.set_cons_zero, List.set_cons_succ]
                    refine' wpAnyH_take (i := 8) (v := _) rfl (by kernel_rfl) (by kernel_rfl) (by kernel_rfl) (fun _ _ _ h => h) (Or.inl ⟨by with_unfolding_all rfl, ?_⟩) (by assumption) ?_
                    rotate_left
                    focus (intro w hSw; (try dsimp only at hSw); go_simp; try (with_reducible rfl))
                    try simp only [List.getElem_toArray, List.getElem_cons_zero, List.getElem_cons_succ, Act.put, List.setIfInBounds_toArray, List.set_cons_zero, List.set_cons_succ]
                    refine' wpAnyH_take (i := 9) (v := _) rfl (by kernel_rfl) (by kernel_rfl) (by kernel_rfl) (fun _ _ _ h => h) (Or.inl ⟨by with_unfolding_all rfl, ?_⟩) (by assumption) ?_
                    rotate_left
                    focus (intro w hSw; (try dsimp only at hSw); go_simp; try (with_reducible rfl))
                    try simp only [List.getElem_toArray, List.getElem_cons_zero, List.getElem_cons_succ, Act.put, List.setIfInBounds_toArray, List.set_cons_zero, List.set_cons_succ]
                    refine' wpAnyH_take (i := 10) (v := _) rfl (by kernel_rfl) (by kernel_rfl) (by kernel_rfl) (fun _ _ _ h => h) (Or.inl ⟨by with_unfolding_all rfl, ?_⟩) (by assumption) ?_
                    rotate_left
                    focus (intro w hSw; (try dsimp only at hSw); go_simp; try (with_reducible rfl))
                    try simp only [List.getElem_toArray, List.getElem_cons_zero, List.getElem_cons_succ, Act.put, List.setIfInBounds_toArray, List.set_cons_zero, List.set_cons_succ]
                    refine' wpAnyH_take (i := 11) (v := _) rfl (by kernel_rfl) (by kernel_rfl) (by kernel_rfl) (fun _ _ _ h => h) (Or.inl ⟨by with_unfolding_all rfl, ?_⟩) (by assumption) ?_
                    rotate_left
                    focus (intro w hSw; (try dsimp only at hSw); go_simp; try (with_reducible rfl))
                    try simp only [List.getElem_toArray, List.getElem_cons_zero, List.getElem_cons_succ, Act.put, List.setIfInBounds_toArray, List.set_cons_zero, List.set_cons_succ]
                    refine' wpAnyH_take (i := 13) (v := _) rfl (by kernel_rfl) (by kernel_rfl) (by kernel_rfl) (fun _ _ _ h => h) (Or.inl ⟨by with_unfolding_all rfl, ?_⟩) (by assumption) ?_
                    rotate_left
                    focus (intro w hSw; (try dsimp only at hSw); go_simp; try (with_reducible rfl))
                    try simp only [List.getElem_toArray, List.getElem_cons_zero, List.getElem_cons_succ, Act.put, List.setIfInBounds_toArray, List.set_cons_zero, List.set_cons_succ]
                    refine' wpAnyH_take (i := 14) (v := _) rfl (by kernel_rfl) (by kernel_rfl) (by kernel_rfl) (fun _ _ _ h => h) (Or.inl ⟨by with_unfolding_all rfl, ?_⟩) (by assumption) ?_
                    rotate_left
                    focus (intro w hSw; (try dsimp only at hSw); go_simp; try (with_reducible rfl))
                    try simp only [List.getElem_toArray, List.getElem_cons_zero, List.getElem_cons_succ, Act.put, List.setIfInBounds_toArray, List.set_cons_zero, List.set_cons_succ]
                    refine' wpAnyH_take (i := 15) (v := _) rfl (by kernel_rfl) (by kernel_rfl) (by kernel_rfl) (fun _ _ _ h => h) (Or.inl ⟨by with_unfolding_all rfl, ?_⟩) (by assumption) ?_
                    rotate_left
                    focus (intro w hSw; (try dsimp only at hSw); go_simp; try (with_reducible rfl))
                    try simp only [List.getElem_toArray, List.getElem_cons_zero, List.getElem_cons_succ, Act.put, List.setIfInBounds_toArray, List.set_cons_zero, List.set_cons_succ]
                    refine wpAnyH_ready (rs := [12]) (by kernel_rfl) (by simp) ?_
                    refine AllReadyH.cons rfl (fun K hK => ?_) AllReadyH.nil
                    rw [if_pos (by with_unfolding_all rfl)]
                    go_simp
                    (go_at_call 35; (with_reducible refine (HFr.out _ ((Below.refl _ wr).drew)).mono ?_); rintro e W3 ⟨⟨v3, rfl, hv⟩, b3⟩; have q3 := (Below.refl wr.heap.size wr).drew.trans b3; have d3 := (HD.out.past q3).cell (k := 0) rfl; have dl3 := (HD.out.past q3).lt; have t3 := (HB.out.past q3).cell (k := f) HC.out; have tl3 := (HB.out.past q3).lt; have HV := Lib.hid (RowW.of H8.out hv).1; clear hv)
                    refine hK.out _ _ (by (try dsimp only); go_keep) (fun hHeld => ?_)
                    clear hK K
                    try simp only [List.getElem_toArray, List.getElem_cons_zero, List.getElem_cons_succ, Act.put, List.setIfInBounds_toArray, List.set_cons_zero, List.set_cons_succ]
                    refine wpAnyH_ready (rs := [16]) (by kernel_rfl) (by simp) ?_
                    refine AllReadyH.cons rfl (fun K hK => ?_) AllReadyH.nil
                    rw [if_pos (by with_unfolding_all rfl)]
                    go_simp
                    (go_at_call 36; (with_reducible refine (HSw.out W3 v3 q3 HV.out).mono ?_); rintro e W4 ⟨rfl, b4⟩; have q4 := q3.trans (b4.mono q3.size); have d4 := (HD.out.past q4).cell (k := 0) rfl; have t4 := (HB.out.past q4).cell (k := f) HC.out)
                    refine hK.out _ _ (by (try dsimp only); go_keep) (fun hHeld => ?_)
                    clear hK K
                    try simp only [List.getElem_toArray, List.getElem_cons_zero, List.getElem_cons_succ, Act.put, List.setIfInBounds_toArray, List.set_cons_zero, List.set_cons_succ]
                    refine' wpAnyH_take (i := 17) (v := _) rfl (by kernel_rfl) (by kernel_rfl) (by kernel_rfl) (fun _ _ _ h => h) (Or.inl ⟨by with_unfolding_all rfl, ?_⟩) (by assumption) ?_
                    rotate_left
                    focus (intro w hSw; (try dsimp only at hSw); go_simp; try (with_reducible rfl))
                    try simp only [List.getElem_toArray, List.getElem_cons_zero, List.getElem_cons_succ, Act.put, List.setIfInBounds_toArray, List.set_cons_zero, List.set_cons_succ]
                    refine' wpAnyH_take (i := 18) (v := _) rfl (by kernel_rfl) (by kernel_rfl) (by kernel_rfl) (fun _ _ _ h => h) (Or.inl ⟨by with_unfolding_all rfl, ?_⟩) (by assumption) ?_
                    rotate_left
                    focus (intro w hSw; (try dsimp only at hSw); go_simp; try (with_reducible rfl))
                    try simp only [List.getElem_toArray, List.getElem_cons_zero, List.getElem_cons_succ, Act.put, List.setIfInBounds_toArray, List.set_cons_zero, List.set_cons_succ]
                    refine wpAnyH_done (by kernel_rfl) ?_ _
                    all_goals go_wp2
                    all_goals go_roundw
                    case rel => exact ⟨f + 1, by omega, by simp, HH.out.past q4⟩
                    case measure => simp [intOf]; omega
                  · have f1 : decide ((f : Int) < 4) = false := decide_eq_false (by omega)
                    have f2 : decide ((f : Int) ≥ 12) = true := decide_eq_true (by omega)
                    go_wp2_with fail
                    go_region_held3 (fun w' => w'.cell? ⟨wb, 0, none⟩ = some (.pointer (some ⟨A.fp, 0, none⟩)) ∧ w'.cell? ⟨tb, f, none⟩ = some v2) (go_keep) (first
                      | (go_at_call 35; (with_reducible refine (HFr.out _ ((Below.refl _ wr).drew)).mono ?_); rintro e W3 ⟨⟨v3, rfl, hv⟩, b3⟩; have q3 := (Below.refl wr.heap.size wr).drew.trans b3; have d3 := (HD.out.past q3).cell (k := 0) rfl; have dl3 := (HD.out.past q3).lt; have t3 := (HB.out.past q3).cell (k := f) HC.out; have tl3 := (HB.out.past q3).lt; have HV := Lib.hid (RowW.of H8.out hv).1; clear hv)
                      | (go_at_call 36; (with_reducible refine (HSw.out W3 v3 q3 HV.out).mono ?_); rintro e W4 ⟨rfl, b4⟩; have q4 := q3.trans (b4.mono q3.size); have d4 := (HD.out.past q4).cell (k := 0) rfl; have t4 := (HB.out.past q4).cell (k := f) HC.out))
                    all_goals go_wp2
                    all_goals go_roundw
                    case rel => exact ⟨f + 1, by omega, by simp, HH.out.past q4⟩
                    case measure => simp [intOf]; omega
                · have f1 : decide ((f : Int) < 4) = false := decide_eq_false (by omega)
                  have f2 : decide ((f : Int) ≥ 12) = false := decide_eq_false (by omega)
                  have HH := Lib.hid H
                  clear H hr
                  go_wp2_with fail
                  go_quiet (fail)
                  go_wp2_with fail
                  go_roundw
                  case rel => exact ⟨f + 1, by omega, by simp, HH.out.drewN _⟩
                  case measure => simp [intOf]; omega
              · have HH := Lib.hid H
                clear H
                go_wp2_with fail
                go_ret
                exact ⟨rfl, HH.out.below⟩
end Go.Proofs.Ytldmlmojokicaaa
