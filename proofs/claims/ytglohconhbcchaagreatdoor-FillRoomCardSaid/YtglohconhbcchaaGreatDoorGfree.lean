/- The free frames in memory: Take, Give. A store's writes, on: Make, Drop. A store's writes, on: Drop. -/
import Derived.Test.YtglohconhbcchaaGreatDoorGh
import Derived.Maps.OwnOps
import Derived.Maps.OwnSet
namespace Go.Proofs.YtglohconhbcchaaGreatDoor
open Go.RowKit Go.Shelf Go.Maps

theorem own_tight {w : World} {P : Program} {k : TypeId} {R : Value → Option (DataW Unit × List MemPlace)} {b n : Nat} {D : DataW Unit} (h : w.ownsMap P k R b n D) : w.ownsMap P k R b (Maps.size D) D := by
  obtain ⟨es, c, h1, h2, h3, h4⟩ := h
  refine ⟨es, c, h1, h2, ?_, h4⟩
  rw [h4, Maps.size_eq, length_read]
  exact Nat.le_refl _
theorem kl_ne {a b : Int} (h : a ≠ b) : kl a ≠ kl b := fun e => h (by unfold kl at e; injection e)
theorem key_kl (a : Int) (hw : (Lit.int .i64 a).wf = true) : keyOf Tryz.prog 3 (.int .i64 a) = some (kl a) := keyOf_int_mk Tryz.underlying3 hw
theorem isKey_kl (a : Int) : WideAt.IsKeyLit (kl a) := by unfold kl; trivial
/-- the free frames: the list's block, the row of those given back, the map of what is taken -/
structure FLX (w : World) (flp km first many fresh : Nat) (bv : Value) (back tk : List Int) : Prop where
  fl : Blk w flp 218 [.int .i64 (first : Int), .int .i64 (many : Int), .int .i64 (fresh : Int), bv, .map (some km)]
  row : RowI w bv back
  tk : Keys w km tk
theorem FLX.past {w w' : World} {flp km first many fresh : Nat} {bv : Value} {back tk : List Int} (h : FLX w flp km first many fresh bv back tk) (hb : Below w.heap.size w w') : FLX w' flp km first many fresh bv back tk :=
  ⟨h.fl.past hb, h.row.past hb, h.tk.keep (hb.block _ h.tk.lt)⟩
def FSet (flp km : Nat) (bv : Value) (k : Nat) : Prop := k = flp ∨ bv.ownBlock = some k ∨ k = km
theorem keys_put {w w' : World} {b : Nat} {tk : List Int} {f : Int} {n : Nat} {D : DataW Unit} (hf : f ∉ tk) (h1 : w.ownsMap Tryz.prog 3 (plainElem Tryz.prog 3) b n D) (h2 : ∀ g : Int, Maps.has D (kl g) = decide (g ∈ tk)) (h3 : Maps.size D = tk.length)
    (d : DataW Unit) {m : Nat} (h : w'.ownsMap Tryz.prog 3 (plainElem Tryz.prog 3) b m (D.put (kl f) d)) : Keys w' b (tk ++ [f]) := by
  refine ⟨m, _, h, fun g => ?_, ?_⟩
  · by_cases e : g = f
    · subst e
      rw [Maps.has_put_same h1.isMap (isKey_kl g)]; simp
    · rw [Maps.has_put_other (kl_ne e), h2]; simp [e]
  · rw [Maps.size_put (h1.tidy key_int), h2]
    simp [hf, h3]
theorem keys_del {w w' : World} {b : Nat} {tk : List Int} {f : Int} {n : Nat} {D : DataW Unit} (hf : f ∈ tk) (hn : tk.Nodup) (h1 : w.ownsMap Tryz.prog 3 (plainElem Tryz.prog 3) b n D) (h2 : ∀ g : Int, Maps.has D (kl g) = decide (g ∈ tk)) (h3 : Maps.size D = tk.length)
    {m : Nat} (h : w'.ownsMap Tryz.prog 3 (plainElem Tryz.prog 3) b m (D.del (kl f))) : Keys w' b (tk.filter fun g => !decide (g = f)) := by
  refine ⟨m, _, h, fun g => ?_, ?_⟩
  · by_cases e : g = f
    · subst e
      rw [Maps.has_del_same]; simp
    · rw [Maps.has_del_other (kl_ne e), h2]; simp [e]
  · have hs := Maps.size_del (k := kl f) (h1.tidy key_int)
    rw [h2, h3] at hs
    simp only [hf, decide_true, if_true] at hs
    have hl : (tk.filter fun g => !decide (g = f)).length + 1 = tk.length := by
      clear h1 h2 h3 h hs
      induction tk with
      | nil => simp at hf
      | cons a r ih =>
        rw [List.nodup_cons] at hn
        by_cases e : a = f
        · subst e
          have : r.filter (fun g => !decide (g = a)) = r := List.filter_eq_self.2 fun q hq => by
            have : q ≠ a := fun e => hn.1 (e ▸ hq)
            simp [this]
          simp [this]
        · have hfr : f ∈ r := by
            rcases List.mem_cons.1 hf with h | h
            · exact absurd h.symm e
            · exact h
          have := ih hfr hn.2
          simp [e, this]
    omega
theorem map_ne {w : World} {b c : Nat} {T : TypeId} {xs : List Value} (h : Blk w b T xs) {es : Array MapEntry} {cl : Nat} (hm : w.heap[c]? = some (.map es cl)) : b ≠ c := fun e => by
  unfold Blk at h; rw [e, hm] at h; cases h
theorem FLX.turned {w W1 w3 : World} {flp km first many fresh' : Nat} {bv bv' : Value} {back' tk' : List Int} (hfl : Blk W1 flp 218 [.int .i64 (first : Int), .int .i64 (many : Int), .int .i64 (fresh' : Int), bv', .map (some km)]) (hrow : RowI W1 bv' back')
    (hK : Kept w.heap.size (FSet flp km bv) w W1) (HT : W1.mapTurned w3 km) (hk : Keys w3 km tk') : FLX w3 flp km first many fresh' bv' back' tk' ∧ Kept w.heap.size (FSet flp km bv) w w3 := by
  have hg := HT.grown
  obtain ⟨es, cl, es', cl', hm, _⟩ := HT
  refine ⟨⟨hfl.of_heap (hg.block _ hfl.lt (fun e => map_ne hfl hm (Option.some.inj e))), hrow.keep fun b hb => hg.block b (hrow.lt' b hb) (fun e => ?_), hk⟩, hK.trans ⟨hg.os, hg.tape, hg.output, hg.size, fun k hk hs => hg.block k (Nat.lt_of_lt_of_le hk hK.size) (fun e => hs (.inr (.inr (Option.some.inj e))))⟩⟩
  rcases hrow.view with ⟨e', _⟩ | ⟨g, cap, rest, e', hgb, _⟩
  · rw [e'] at hb; simp [Value.ownBlock] at hb
  · rw [e'] at hb; simp [Value.ownBlock] at hb; subst hb
    exact map_ne hgb hm (Option.some.inj e)
set_option maxRecDepth 100000 in
set_option maxHeartbeats 2000000 in
theorem take_no (w : World) (flp km first many fresh : Nat) (bv : Value) (tk : List Int) (F : FLX w flp km first many fresh bv [] tk) (h1 : first + many ≤ 256) (h2 : ¬ fresh < many) (h3 : fresh ≤ many) :
    Calls Tryz.prog 80 #[.pointer (some ⟨flp, 0, none⟩)] w fun e w' => e = .returned (.tuple #[.int .i64 0, .bool false]) ∧ Below w.heap.size w w' := by
  have c0 := F.fl.cell (k := 0) rfl
  have c1 := F.fl.cell (k := 1) rfl
  have c2 := F.fl.cell (k := 2) rfl
  have c3 := F.fl.cell (k := 3) rfl
  have lf := F.fl.lt
  obtain ⟨a, c, rfl⟩ : ∃ a c, bv = .slice a 0 c := by
    rcases F.row.view with ⟨e, _⟩ | ⟨g, cap, rest, e, _⟩
    · exact ⟨_, _, e⟩
    · exact ⟨_, _, e⟩
  have hle : many ≤ fresh := by omega
  clear F h2
  go_enter Tryz.func80, Tryz.ntmps80
  go_wp2_with fail
  go_quiet (fail)
  go_wp2_with fail
  go_quiet (fail)
  go_wp2
  go_ret2
  exact ⟨rfl, below_drewN (below_of_drewN w _) _⟩
set_option maxRecDepth 100000 in
set_option maxHeartbeats 2000000 in
theorem take_fresh (w : World) (flp km first many fresh : Nat) (bv : Value) (tk : List Int) (F : FLX w flp km first many fresh bv [] tk) (h1 : first + many ≤ 256) (h2 : fresh < many) (hf : ((first : Int) + fresh) ∉ tk) (hl : tk.length ≤ 1000) :
    Calls Tryz.prog 80 #[.pointer (some ⟨flp, 0, none⟩)] w
      fun e w' => e = .returned (.tuple #[.int .i64 ((first : Int) + fresh), .bool true]) ∧ FLX w' flp km first many (fresh + 1) bv [] (tk ++ [(first : Int) + fresh]) ∧ Kept w.heap.size (FSet flp km bv) w w' := by
  have c0 := F.fl.cell (k := 0) rfl
  have c1 := F.fl.cell (k := 1) rfl
  have c2 := F.fl.cell (k := 2) rfl
  have c3 := F.fl.cell (k := 3) rfl
  have c4 := F.fl.cell (k := 4) rfl
  have lf := F.fl.lt
  have ff := fun k => F.fl.free k
  obtain ⟨a, c, rfl⟩ : ∃ a c, bv = .slice a 0 c := by
    rcases F.row.view with ⟨e, _⟩ | ⟨g, cap, rest, e, _⟩
    · exact ⟨_, _, e⟩
    · exact ⟨_, _, e⟩
  obtain ⟨n, D, m1, m2, m3⟩ := F.tk
  have m1 := own_tight m1
  rw [m3] at m1
  have hlt : decide ((fresh : Int) < (many : Int)) = true := decide_eq_true (by omega)
  have hw1 : IntKind.i64.wrap ((first : Int) + fresh) = (first : Int) + fresh := by rw [IntKind.wrap_i64]; omega
  have hw2 : IntKind.i64.wrap ((fresh : Int) + 1) = (fresh : Int) + 1 := by rw [IntKind.wrap_i64]; omega
  have hkey := key_kl ((first : Int) + fresh) (WalkArith.wf_i64 (by omega))
  have hz := zero_I
  have HF := Lib.hid F
  have HM := Lib.hid m1
  have HM2 := Lib.hid m2
  have HM3 := Lib.hid m3
  have HK := Lib.hid hkey
  have HZ := Lib.hid hz
  have HFt := Lib.hid hf
  obtain ⟨kf, hkf⟩ : ∃ z, (first : Int) + fresh = z := ⟨_, rfl⟩
  rw [hkf] at HK HFt hw1 ⊢
  clear F m1 m2 m3 hkey hz hf
  go_enter Tryz.func80, Tryz.ntmps80
  go_wp2_with fail
  go_quiet (fail)
  go_wp2_with fail
  go_quiet (fail)
  have hne : km ≠ flp := fun e => by
    obtain ⟨es, cl, h, _⟩ := HM.out
    have := HF.out.fl
    unfold Blk at this
    rw [e, this] at h
    cases h
  have hne' := Ne.symm hne
  have own : ∀ (W : World) (x : Value), W.heap = w.heap → (W.setCell ⟨flp, 2, none⟩ x).ownsMap Tryz.prog 3 (plainElem Tryz.prog 3) km tk.length D := fun W x h => by
    refine World.ownsMap.setCell ?_ (a := ⟨flp, 2, none⟩) hne x
    obtain ⟨es, cl, h1, h2⟩ := HM.out
    exact ⟨es, cl, by rw [h]; exact h1, h2⟩
  have HOwn := Lib.hid own
  have lkm := HM.out.lt
  clear own
  go_wp2_with (first
    | (at_lookup; refine wpList_lookup_own_int _ rfl _ _ 198 rfl 3 3 .i64 key_int Tryz.underlying198 Tryz.underlying3 (HZ.out _) km tk.length D rfl (HOwn.out _ _ rfl) _ (kl kf) rfl HK.out ?_; intro c' hat hwc)
    | (at_mapUpdate; refine wpList_mapUpdate_in _ rfl _ _ _ 198 rfl 3 3 key_int Tryz.underlying198 (plainElem Tryz.prog 3) km tk.length D rfl (HOwn.out _ _ rfl) (by unfold maxLen; omega) _ _ (kl kf) rfl rfl HK.out (.lit (.int .i64 (wrap64 (c' + 1)))) [] (plainElem_int Tryz.underlying3 (wrap64_wf _)) ?_; intro w3 hown3 hturn3; have HO3 := Lib.hid hown3; have HT3 := Lib.hid hturn3; clear hown3 hturn3))
  go_ret2
  rename_i nq'
  obtain ⟨W1, hW1⟩ : ∃ W1, ((w.drewN (nq' + nq)).setCell ⟨flp, 2, none⟩ (.int .i64 ((fresh : Int) + 1))) = W1 := ⟨_, rfl⟩
  have h1 : Blk W1 flp 218 [.int .i64 (first : Int), .int .i64 (many : Int), .int .i64 ((fresh + 1 : Nat) : Int), .slice a 0 c, .map (some km)] := by
    have h := (HF.out.fl.drewN (nq' + nq)).set 2 (.int .i64 ((fresh : Int) + 1))
    rw [hW1] at h
    exact h
  have h2 : RowI W1 (.slice a 0 c) [] := by
    have h := RowI.other (HF.out.row.past (below_of_drewN w (nq' + nq))) (HF.out.fl.drewN (nq' + nq)) (by decide) 2 (.int .i64 ((fresh : Int) + 1))
    rw [hW1] at h
    exact h
  have h3 : Kept w.heap.size (FSet flp km (.slice a 0 c)) w W1 := by
    rw [← hW1]
    exact ((Kept.refl _ _ w).drewN _).setCell (p := ⟨flp, 2, none⟩) (.inl (.inl rfl)) _
  rw [hW1] at HT3
  obtain ⟨f1, f2⟩ := FLX.turned h1 h2 h3 HT3.out (keys_put HFt.out HM.out HM2.out HM3.out _ HO3.out)
  exact ⟨rfl, f1, f2⟩
set_option maxRecDepth 100000 in
set_option maxHeartbeats 2000000 in
theorem take_back (w : World) (flp km first many fresh : Nat) (bv : Value) (ini : List Int) (f : Int) (tk : List Int) (F : FLX w flp km first many fresh bv (ini ++ [f]) tk) (h1 : first + many ≤ 256) (h2 : fresh ≤ many) (hf : f ∉ tk) (hf1 : 0 ≤ f ∧ f ≤ 1000) (hl : tk.length ≤ 1000) (hin : ini.length ≤ 1000) :
    Calls Tryz.prog 80 #[.pointer (some ⟨flp, 0, none⟩)] w
      fun e w' => e = .returned (.tuple #[.int .i64 f, .bool true]) ∧ ∃ bv', FLX w' flp km first many fresh bv' ini (tk ++ [f]) ∧ bv'.ownBlock = bv.ownBlock ∧ Kept w.heap.size (FSet flp km bv) w w' := by
  have c0 := F.fl.cell (k := 0) rfl
  have c1 := F.fl.cell (k := 1) rfl
  have c2 := F.fl.cell (k := 2) rfl
  have c3 := F.fl.cell (k := 3) rfl
  have c4 := F.fl.cell (k := 4) rfl
  have lf := F.fl.lt
  have ff := fun k => F.fl.free k
  rcases F.row.view with ⟨_, e⟩ | ⟨g, cap, rest, rfl, hb, hc1, hc2, hc3⟩
  · simp at e
  obtain ⟨n, D, m1, m2, m3⟩ := F.tk
  have m1 := own_tight m1
  rw [m3] at m1
  have hlen : (ini ++ [f]).length = ini.length + 1 := by simp
  have d0 : w.cell? ⟨g, ini.length, none⟩ = some (.int .i64 f) := hb.cell (by
    rw [List.getElem?_append_left (by simp), List.getElem?_map, List.getElem?_append_right (Nat.le_refl _)]; simp [valI])
  have lg := hb.lt
  rw [hlen] at c3 hc1
  unfold maxLen at hc2
  obtain ⟨q, hq⟩ : ∃ q, ini.length = q := ⟨_, rfl⟩
  rw [hq] at c3 hc1 d0 hin
  have hw1 : IntKind.i64.wrap ((first : Int) + fresh) = (first : Int) + fresh := by rw [IntKind.wrap_i64]; omega
  have hw2 : IntKind.i64.wrap (((q : Int) + 1) - 1) = (q : Int) := by rw [IntKind.wrap_i64]; omega
  have hkey := key_kl f (WalkArith.wf_i64 (by omega))
  have hz := zero_I
  have HF := Lib.hid F
  have HM := Lib.hid m1
  have HM2 := Lib.hid m2
  have HM3 := Lib.hid m3
  have HK := Lib.hid hkey
  have HZ := Lib.hid hz
  have HFt := Lib.hid hf
  have HB := Lib.hid hb
  have HQ := Lib.hid hq
  have HC3 := Lib.hid hc3
  have hne : km ≠ flp := fun e => by
    obtain ⟨es, cl, h, _⟩ := HM.out
    have := HF.out.fl
    unfold Blk at this
    rw [e, this] at h
    cases h
  have hne' := Ne.symm hne
  have own : ∀ (W : World) (x : Value), W.heap = w.heap → (W.setCell ⟨flp, 3, none⟩ x).ownsMap Tryz.prog 3 (plainElem Tryz.prog 3) km tk.length D := fun W x h => by
    refine World.ownsMap.setCell ?_ (a := ⟨flp, 3, none⟩) hne x
    obtain ⟨es, cl, h1, h2⟩ := HM.out
    exact ⟨es, cl, by rw [h]; exact h1, h2⟩
  have HOwn := Lib.hid own
  have lkm := HM.out.lt
  have hqc : q ≤ cap := by omega
  clear own F m1 m2 m3 hkey hz hf hb hq hc3 hlen
  go_enter Tryz.func80, Tryz.ntmps80
  go_wp2_with fail
  go_quiet (fail)
  go_wp2_with (first
    | (at_lookup; refine wpList_lookup_own_int _ rfl _ _ 198 rfl 3 3 .i64 key_int Tryz.underlying198 Tryz.underlying3 (HZ.out _) km tk.length D rfl (HOwn.out _ _ rfl) _ (kl f) rfl HK.out ?_; intro c' hat hwc)
    | (at_mapUpdate; refine wpList_mapUpdate_in _ rfl _ _ _ 198 rfl 3 3 key_int Tryz.underlying198 (plainElem Tryz.prog 3) km tk.length D rfl (HOwn.out _ _ rfl) (by unfold maxLen; omega) _ _ (kl f) rfl rfl HK.out (.lit (.int .i64 (wrap64 (c' + 1)))) [] (plainElem_int Tryz.underlying3 (wrap64_wf _)) ?_; intro w3 hown3 hturn3; have HO3 := Lib.hid hown3; have HT3 := Lib.hid hturn3; clear hown3 hturn3))
  go_ret2
  obtain ⟨W1, hW1⟩ : ∃ W1, ((w.drewN nq).setCell ⟨flp, 3, none⟩ (.slice (some ⟨g, 0, none⟩) q cap)) = W1 := ⟨_, rfl⟩
  have h1 : Blk W1 flp 218 [.int .i64 (first : Int), .int .i64 (many : Int), .int .i64 (fresh : Int), .slice (some ⟨g, 0, none⟩) q cap, .map (some km)] := by
    have h := (HF.out.fl.drewN nq).set 3 (.slice (some ⟨g, 0, none⟩) q cap)
    rw [hW1] at h
    exact h
  have hgf : g ≠ flp := HB.out.ne HF.out.fl (by decide)
  have h2 : RowI W1 (.slice (some ⟨g, 0, none⟩) q cap) ini := by
    have h := (HB.out.drewN nq).other (a := ⟨flp, 3, none⟩) hgf (.slice (some ⟨g, 0, none⟩) q cap)
    rw [hW1, List.map_append, List.append_assoc] at h
    have hc := HC3.out
    rw [List.length_append, HQ.out] at hc
    simp only [List.length_cons, List.length_nil] at hc
    have := RowI.mk' (cap := cap) h (by rw [HQ.out]; exact hqc) (by unfold maxLen; omega) (by rw [HQ.out]; simp only [List.length_append, List.length_map, List.length_cons, List.length_nil]; omega)
    rw [HQ.out] at this
    exact this
  have h3 : Kept w.heap.size (FSet flp km (.slice (some ⟨g, 0, none⟩) (ini ++ [f]).length cap)) w W1 := by
    rw [← hW1]
    exact ((Kept.refl _ _ w).drewN _).setCell (p := ⟨flp, 3, none⟩) (.inl (.inl rfl)) _
  rw [hW1] at HT3
  obtain ⟨f1, f2⟩ := FLX.turned h1 h2 h3 HT3.out (keys_put HFt.out HM.out HM2.out HM3.out _ HO3.out)
  exact ⟨rfl, _, f1, rfl, f2⟩
set_option maxRecDepth 100000 in
set_option maxHeartbeats 2000000 in
theorem give_yes (w : World) (flp km first many fresh : Nat) (bv : Value) (back : List Int) (f : Int) (tk : List Int) (F : FLX w flp km first many fresh bv back tk) (hf : f ∈ tk) (hn : tk.Nodup) (hf1 : 0 ≤ f ∧ f ≤ 1000) (_hl : tk.length ≤ 1000) (hin : back.length ≤ 1000) :
    Calls Tryz.prog 175 #[.pointer (some ⟨flp, 0, none⟩), .int .i64 f] w
      fun e w' => e = .returned (.bool true) ∧ ∃ bv', FLX w' flp km first many fresh bv' (back ++ [f]) (tk.filter fun g => !decide (g = f)) ∧ OwnN w bv bv' ∧ Kept w.heap.size (FSet flp km bv) w w' := by
  have c3 := F.fl.cell (k := 3) rfl
  have c4 := F.fl.cell (k := 4) rfl
  have lf := F.fl.lt
  obtain ⟨i0, hi, hz0, hz1, hz2⟩ := info_parts info_int
  obtain ⟨n, D, m1, m2, m3⟩ := F.tk
  have m1 := own_tight m1
  rw [m3] at m1
  have hkey := key_kl f (WalkArith.wf_i64 (by omega))
  have hz := zero_I
  have hmem : Maps.has D (kl f) = true := by rw [m2]; simp [hf]
  have hcell : ∀ W, w.mapTurned W km → Blk W flp 218 [.int .i64 (first : Int), .int .i64 (many : Int), .int .i64 (fresh : Int), bv, .map (some km)] ∧ RowI W bv back ∧ Kept w.heap.size (FSet flp km bv) w W := fun W h => by
    have hg := h.grown
    obtain ⟨es, cl, es', cl', hm, _⟩ := h
    refine ⟨F.fl.of_heap (hg.block _ F.fl.lt (fun e => map_ne F.fl hm (Option.some.inj e))), F.row.keep fun b hb => hg.block b (F.row.lt' b hb) (fun e => ?_), ⟨hg.os, hg.tape, hg.output, hg.size, fun k hk hs => hg.block k hk (fun e => hs (.inr (.inr (Option.some.inj e))))⟩⟩
    rcases F.row.view with ⟨e', _⟩ | ⟨g, cap, rest, e', hgb, _⟩
    · rw [e'] at hb; simp [Value.ownBlock] at hb
    · rw [e'] at hb; simp [Value.ownBlock] at hb; subst hb
      exact map_ne hgb hm (Option.some.inj e)
  obtain ⟨ln, hln⟩ : ∃ n, back.length = n := ⟨_, rfl⟩
  rw [hln] at hin
  have hone := F.row.one
  have HF := Lib.hid F
  have HM := Lib.hid m1
  have HM2 := Lib.hid m2
  have HM3 := Lib.hid m3
  have HK := Lib.hid hkey
  have HZ := Lib.hid hz
  have HMm := Lib.hid hmem
  have HCl := Lib.hid hcell
  have HFm := Lib.hid hf
  have HNd := Lib.hid hn
  have H1 := Lib.hid hi
  have HZ0 := Lib.hid hz0
  have HZ1 := Lib.hid hz1
  have HZ2 := Lib.hid hz2
  have HLn := Lib.hid hln
  clear F m1 m2 m3 hkey hz hmem hcell hf hn hi hz0 hz1 hz2 hln
  go_enter Tryz.func175, Tryz.ntmps175
  go_wp2_with (first
    | (at_lookup; refine wpList_lookup_own_ok_int _ rfl _ _ 198 rfl 3 3 .i64 key_int Tryz.underlying198 Tryz.underlying3 (HZ.out _) km tk.length D rfl HM.out _ (kl f) rfl HK.out ?_; intro c' hat hwc; rw [HMm.out])
    | (at_delete; refine wpList_delete_own _ rfl _ _ 198 3 rfl 3 key_int Tryz.underlying198 (plainElem Tryz.prog 3) km tk.length D rfl HM.out _ (kl f) rfl HK.out ?_; intro w1 hown1 hturn1; obtain ⟨g1, g2, g3⟩ := HCl.out w1 hturn1; have e3 := g1.cell (k := 3) rfl; have ff := fun k => g1.free k; have lf1 := g1.lt; have HO1 := Lib.hid hown1; have G1 := Lib.hid g1; have G2 := Lib.hid g2; have G3 := Lib.hid g3; clear hown1 hturn1 g1 g2 g3)
    | (at_builtin; refine wpList_append_own_at _ rfl _ _ 43 rfl 0 3 i0 _ 1 8 Tryz.underlying43 H1.out HZ0.out HZ1.out HZ2.out rfl (by decide) _ _ _ rfl (World.ownsRow.alloc (show w1.ownsRow 0 3 1 bv ln (back.map valI) from HLn.out ▸ G2.out) _) ⟨w1.heap.size, 0, none⟩ 1 1 [.int .i64 f] rfl rfl (cell_one_new _ _ _) (fun x hx => by simp at hx; subst hx; rfl) (by unfold maxLen; omega) (by omega) (by simp) ?_; intro v' w3 hown' hgrow3 hnil3 hat3; obtain ⟨g', cap', rfl⟩ := ownsRow_succ hown'; have HO3 := Lib.hid hown'; have HG3 := Lib.hid hgrow3; have HA3 := Lib.hid hat3; have P3 := (G1.out.alloc (.cells #[.int .i64 f] 3)).grownRow (World.ownsRow.alloc (show w1.ownsRow 0 3 1 bv ln (back.map valI) from HLn.out ▸ G2.out) _) (by decide) hgrow3; have p30 := P3.cell (k := 3) rfl; have p3f := fun k => P3.free k; have p3l := P3.lt; clear hown' hgrow3 hnil3 hat3))
  go_ret
  have hrow0 : w1.ownsRow 0 3 1 bv ln (back.map valI) := HLn.out ▸ G2.out
  have hrowA := World.ownsRow.alloc hrow0 (.cells #[.int .i64 f] 3)
  have hs1 := G3.out.size
  have hkm : ∀ c, bv.ownBlock = some c → km ≠ c := fun c hc e => by
    obtain ⟨es, cl, h1, _⟩ := HO1.out
    rcases G2.out.view with ⟨e', _⟩ | ⟨g, cap, rest, e', hgb, _⟩
    · rw [e'] at hc; simp [Value.ownBlock] at hc
    · rw [e'] at hc; simp [Value.ownBlock] at hc; subst hc
      exact map_ne hgb h1 e.symm
  have hkf : km ≠ flp := fun e => by
    obtain ⟨es, cl, h1, _⟩ := HO1.out
    exact map_ne G1.out h1 e.symm
  have hm3 := ((HO1.out.alloc (.cells #[.int .i64 f] 3)).kept HG3.out (fun e => hkm _ e.symm rfl)).setCell (a := ⟨flp, 3, none⟩) hkf (.slice (some ⟨g', 0, none⟩) (ln + 1) cap')
  refine ⟨rfl, .slice (some ⟨g', 0, none⟩) (ln + 1) cap', ⟨P3.set 3 _, ?_, keys_del HFm.out HNd.out HM.out HM2.out HM3.out hm3⟩, ?_, ?_⟩
  · have h := nrow_setO HO3.out P3 (by decide) 3 (.slice (some ⟨g', 0, none⟩) (ln + 1) cap')
    show World.ownsRow _ 0 3 1 _ (back ++ [f]).length ((back ++ [f]).map valI)
    rw [List.length_append, HLn.out, List.map_append]
    exact h
  · rcases HA3.out with h | h
    · exact .inl h
    · exact .inr fun k hk => by rw [h] at hk; cases hk; rw [World.size_alloc]; omega
  · have hg := HG3.out
    refine (G3.out.trans ⟨hg.os, hg.tape, hg.output, Nat.le_trans (by simp) hg.size, fun k hk hs => ?_⟩).setCell (p := ⟨flp, 3, none⟩) (.inl (.inl rfl)) _
    have hk1 : k < w1.heap.size := Nat.lt_of_lt_of_le hk hs1
    exact (hg.block k (by simp; omega) (fun e => hs (.inr (.inl e.symm)))).trans (Below.heap_alloc _ _ _ hk1)
end Go.Proofs.YtglohconhbcchaaGreatDoor

namespace Go.Proofs.YtglohconhbcchaaGreatDoor
open Go.RowKit Go.Shelf Go.Maps

theorem right_any (w : World) (kg kv kr : Int) (b : Bool) (hb : kright ⟨kg, kv, kr⟩ = b) :
    Calls Tryz.prog 79 #[.agg #[.int .i64 kg, .int .i64 kv, .int .i64 kr]] w fun e w' => e = .returned (.bool b) ∧ Below w.heap.size w w' := by
  subst hb
  unfold kright
  dsimp only
  by_cases h1 : 1 ≤ kv
  · by_cases h2 : kv ≤ 3
    · by_cases h3 : 0 ≤ kr
      · by_cases h4 : kr ≤ 2
        · by_cases h5 : kr = 0
          · subst h5
            go_enter Tryz.func79, Tryz.ntmps79
            go_wp2
            go_ret
            exact ⟨by simp [h1, h2], bal _ _⟩
          · have f5 : (kr == 0) = false := beq_eq_false_iff_ne.2 h5
            by_cases h6 : kv = 1
            · subst h6
              go_enter Tryz.func79, Tryz.ntmps79
              go_wp2
              go_ret
              exact ⟨by simp [h3, h4], bal _ _⟩
            · have f6 : (kv == 1) = false := beq_eq_false_iff_ne.2 h6
              go_enter Tryz.func79, Tryz.ntmps79
              go_wp2
              go_ret
              exact ⟨by simp [h5, h6], bal _ _⟩
        · have g4 : 3 ≤ kr := by omega
          clear h4
          go_enter Tryz.func79, Tryz.ntmps79
          go_wp2
          go_ret
          exact ⟨by simp; omega, bal _ _⟩
      · have g3 : kr < 0 := by omega
        clear h3
        go_enter Tryz.func79, Tryz.ntmps79
        go_wp2
        go_ret
        exact ⟨by simp; omega, bal _ _⟩
    · have g2 : 4 ≤ kv := by omega
      clear h2
      go_enter Tryz.func79, Tryz.ntmps79
      go_wp2
      go_ret
      exact ⟨by simp; omega, bal _ _⟩
  · have g1 : kv < 1 := by omega
    clear h1
    go_enter Tryz.func79, Tryz.ntmps79
    go_wp2
    go_ret
    exact ⟨by simp; omega, bal _ _⟩

theorem kept_row {B : Nat} {S : Nat → Prop} {a W W' : World} {row : Option Nat} (h : Kept B S a W) (hB : B ≤ W.heap.size) (hg : W.grownBy W' row) (hr : ∀ r, row = some r → S r ∨ B ≤ r) : Kept B S a W' :=
  h.trans ⟨hg.os, hg.tape, hg.output, hg.size, fun k hk hs => hg.block k (Nat.lt_of_lt_of_le hk hB) (fun e => by
    rcases hr k e.symm with x | x
    · exact hs x
    · omega)⟩
theorem RowI.own_blk {w : World} {v : Value} {l : List Int} (h : RowI w v l) {c : Nat} (hc : v.ownBlock = some c) : ∃ xs, Blk w c 3 xs := by
  rcases h.view with ⟨e, _⟩ | ⟨g, cap, rest, e, hg, _⟩
  · rw [e] at hc; simp [Value.ownBlock] at hc
  · rw [e] at hc; simp [Value.ownBlock] at hc; subst hc; exact ⟨_, hg⟩
theorem RowP.own_blk {w : World} {v : Value} {l : List Nat} (h : RowP w v l) {c : Nat} (hc : v.ownBlock = some c) : ∃ xs, Blk w c 125 xs := by
  rcases h.view with ⟨e, _⟩ | ⟨g, cap, rest, e, hg, _⟩
  · rw [e] at hc; simp [Value.ownBlock] at hc
  · rw [e] at hc; simp [Value.ownBlock] at hc; subst hc; exact ⟨_, hg⟩
theorem Keys.map {w : World} {b : Nat} {l : List Int} (h : Keys w b l) : ∃ es cl, w.heap[b]? = some (.map es cl) := by
  obtain ⟨n, D, ⟨es, cl, h, _⟩, _⟩ := h; exact ⟨es, cl, h⟩
/-- a block of another type than the free frames' is as it was -/
theorem SX.take_blk {Wt Wt2 : World} {P : Pm} {A : GAd} {V : GVl} {S : SS} (h : SX Wt P A V S) (KT : Kept Wt.heap.size (FSet A.flp A.km V.bv) Wt Wt2) {c : Nat} {T : TypeId} {xs : List Value} (hc : Blk Wt c T xs) (h1 : T ≠ 218) (h2 : T ≠ 3) : Blk Wt2 c T xs := by
  refine hc.kept KT hc.lt ?_
  rintro (e | e | e)
  · subst e; exact h1 (hc.inj h.fl).2
  · obtain ⟨xs', hb⟩ := h.back.own_blk e
    exact h2 (hc.inj hb).2
  · obtain ⟨es, cl, hm⟩ := h.tk.map
    exact map_ne hc hm e
theorem SX.made {Wt Wt2 Wp : World} {P : Pm} {A : GAd} {V : GVl} {S : SS} {f : Int} {k : Key} {fresh' : Nat} {back' : List Int} {bv' v' : Value} {pb : Nat} (h : SX Wt P A V S) (KT : Kept Wt.heap.size (FSet A.flp A.km V.bv) Wt Wt2)
    (F2 : FLX Wt2 A.flp A.km P.first P.many fresh' bv' back' (S.ps.map Pg.f ++ [f])) (obv : bv'.ownBlock = V.bv.ownBlock) (hpb : Wt2.heap.size ≤ pb) (hB : Blk Wp pb 128 (pgC ⟨f, k, List.replicate 8 slt0⟩))
    (hrow : RowP Wp v' (V.pbs ++ [pb])) (hhdr : Blk Wp A.sp 124 [.pointer (some ⟨A.fp, 0, none⟩), .pointer (some ⟨A.flp, 0, none⟩), v']) (KP : Kept Wt2.heap.size (fun k => V.pv.ownBlock = some k ∨ k = A.sp) Wt2 Wp)
    (hv : v'.ownBlock = V.pv.ownBlock ∨ ∀ k, v'.ownBlock = some k → Wt2.heap.size ≤ k) (hinv : SInv P (smade S k f fresh' back')) :
    SX Wp P A { V with pv := v', pbs := V.pbs ++ [pb], bv := bv' } { S with ps := S.ps ++ [⟨f, k, List.replicate 8 slt0⟩], fresh := fresh', back := back' } ∧ Kept Wt.heap.size (SOwn A V) Wt Wp ∧
      (∀ b, SOwn A { V with pv := v', pbs := V.pbs ++ [pb], bv := bv' } b → SOwn A V b ∨ Wt.heap.size ≤ b) := by
  have hs := KT.size
  have keepP : ∀ {c : Nat} {T : TypeId} {xs : List Value}, Blk Wt2 c T xs → T ≠ 125 → T ≠ 124 → Blk Wp c T xs := fun {c T xs} hc h1 h2 => by
    refine hc.kept KP hc.lt ?_
    rintro (e | e)
    · obtain ⟨xs', hb⟩ := h.row.own_blk e
      have hb2 := h.take_blk KT hb (by decide) (by decide)
      exact h1 (hc.inj hb2).2
    · subst e
      have hb2 := h.take_blk KT h.hdr (by decide) (by decide)
      exact h2 (hc.inj hb2).2
  refine ⟨⟨hhdr, hrow, by simp [h.plen], ?_, ?_, keepP F2.fl (by decide) (by decide), ?_, ?_, ⟨h.inv.len, hinv.sl, hinv.pos, hinv.bpos, hinv.nd, hinv.fr, hinv.cnt, hinv.top, hinv.small, hinv.kr⟩⟩, ?_, ?_⟩
  · intro j b hj
    by_cases hjl : j < V.pbs.length
    · rw [List.getElem?_append_left hjl] at hj
      obtain ⟨p, h1, h2⟩ := h.pg j b hj
      exact ⟨p, by rw [List.getElem?_append_left (by rw [← h.plen]; exact hjl)]; exact h1, keepP (h.take_blk KT h2 (by decide) (by decide)) (by decide) (by decide)⟩
    · rw [List.getElem?_append_right (by omega)] at hj
      have hj0 : j - V.pbs.length = 0 := by
        have := (List.getElem?_eq_some_iff.1 hj).1
        simp at this; omega
      rw [hj0] at hj
      simp at hj
      subst hj
      exact ⟨_, by rw [List.getElem?_append_right (by rw [← h.plen]; omega), ← h.plen, hj0]; rfl, hB⟩
  · refine List.nodup_append.2 ⟨h.pnd, by simp, ?_⟩
    intro a ha b hb e
    simp only [List.mem_singleton] at hb
    obtain ⟨j, hj, e2⟩ := List.getElem_of_mem ha
    obtain ⟨p, _, hbl⟩ := h.pg j a (by rw [List.getElem?_eq_getElem hj, e2])
    have := hbl.lt
    omega
  · refine F2.row.keep fun c hc => ?_
    obtain ⟨xs, hb⟩ := F2.row.own_blk hc
    have := keepP hb (by decide) (by decide)
    unfold Blk at this hb
    rw [this, hb]
  · show Keys Wp A.km ((S.ps ++ [_]).map Pg.f)
    rw [List.map_append]
    refine F2.tk.keep ?_
    refine KP.block _ F2.tk.lt ?_
    obtain ⟨es, cl, hm⟩ := F2.tk.map
    rintro (e | e)
    · obtain ⟨xs', hb⟩ := h.row.own_blk e
      exact map_ne (h.take_blk KT hb (by decide) (by decide)) hm rfl
    · exact map_ne (h.take_blk KT h.hdr (by decide) (by decide)) hm e.symm
  · refine (KT.mono (Nat.le_refl _) ?_).trans (KP.mono hs ?_)
    · rintro c _ (e | e | e)
      · exact .inr (.inr (.inr (.inl e)))
      · exact .inr (.inr (.inr (.inr (.inl e))))
      · exact .inr (.inr (.inr (.inr (.inr e))))
    · rintro c _ (e | e)
      · exact .inr (.inl e)
      · exact .inl e
  · rintro c (e | e | e | e | e | e)
    · exact .inl (.inl e)
    · rcases hv with x | x
      · exact .inl (.inr (.inl (x ▸ e)))
      · exact .inr (Nat.le_trans hs (x c e))
    · rcases List.mem_append.1 e with e | e
      · exact .inl (.inr (.inr (.inl e)))
      · simp only [List.mem_singleton] at e
        subst e; exact .inr (Nat.le_trans hs hpb)
    · exact .inl (.inr (.inr (.inr (.inl e))))
    · exact .inl (.inr (.inr (.inr (.inr (.inl (obv ▸ e))))))
    · exact .inl (.inr (.inr (.inr (.inr (.inr e)))))

theorem SX.fx {w : World} {P : Pm} {A : GAd} {V : GVl} {S : SS} (h : SX w P A V S) : FLX w A.flp A.km P.first P.many S.fresh V.bv S.back (S.ps.map Pg.f) := ⟨h.fl, h.back, h.tk⟩
theorem SInv.le {P : Pm} {S : SS} (h : SInv P S) : S.ps.length ≤ 256 ∧ S.back.length ≤ 256 ∧ P.first + P.many ≤ 256 := by
  have h1 := h.cnt; have h2 := h.fr; have h3 := h.top; have h4 := h.small; omega
/-- Take, on a store's frames -/
theorem take_none {w : World} {P : Pm} {A : GAd} {V : GVl} {S : SS} (h : SX w P A V S) (hs : stake P S = none) :
    Calls Tryz.prog 80 #[.pointer (some ⟨A.flp, 0, none⟩)] w fun e w' => e = .returned (.tuple #[.int .i64 0, .bool false]) ∧ Below w.heap.size w w' := by
  unfold stake at hs
  cases hb : S.back.getLast? with
  | some y => rw [hb] at hs; simp at hs
  | none =>
    rw [hb] at hs
    have hn : S.back = [] := List.getLast?_eq_none_iff.1 hb
    have hF := h.fx
    rw [hn] at hF
    refine take_no w _ _ _ _ _ _ _ hF h.inv.le.2.2 ?_ h.inv.fr
    intro e
    simp only [e, if_true] at hs
    cases hs
theorem take_some {w : World} {P : Pm} {A : GAd} {V : GVl} {S : SS} (h : SX w P A V S) {f : Int} {n : Nat} {b : List Int} (hs : stake P S = some (f, n, b)) :
    Calls Tryz.prog 80 #[.pointer (some ⟨A.flp, 0, none⟩)] w
      fun e w' => e = .returned (.tuple #[.int .i64 f, .bool true]) ∧ ∃ bv', FLX w' A.flp A.km P.first P.many n bv' b (S.ps.map Pg.f ++ [f]) ∧ bv'.ownBlock = V.bv.ownBlock ∧ Kept w.heap.size (FSet A.flp A.km V.bv) w w' := by
  obtain ⟨_, p1, p2, p3⟩ := stake_forms h.inv hs
  obtain ⟨l1, l2, l3⟩ := h.inv.le
  have hno : f ∉ S.ps.map Pg.f := fun hm => by
    obtain ⟨p, hp, e⟩ := List.mem_map.1 hm
    exact p3 p hp e
  unfold stake at hs
  cases hb : S.back.getLast? with
  | some y =>
    rw [hb] at hs
    simp only [Option.some.injEq, Prod.mk.injEq] at hs
    obtain ⟨rfl, rfl, rfl⟩ := hs
    obtain ⟨ini, hini⟩ := List.getLast?_eq_some_iff.1 hb
    have hF := h.fx
    rw [hini] at hF ⊢
    rw [hini, List.length_append] at l2
    rw [List.dropLast_concat]
    exact take_back w _ _ _ _ _ _ ini y _ hF l3 h.inv.fr hno (by omega) (by rw [List.length_map]; omega) (by omega)
  | none =>
    rw [hb] at hs
    have hn : S.back = [] := List.getLast?_eq_none_iff.1 hb
    have hF := h.fx
    rw [hn] at hF
    simp only at hs
    split at hs
    · rename_i hlt
      simp only [Option.some.injEq, Prod.mk.injEq] at hs
      obtain ⟨rfl, rfl, rfl⟩ := hs
      refine (take_fresh w _ _ _ _ _ _ _ hF l3 hlt hno (by rw [List.length_map]; omega)).mono ?_
      rintro e w' ⟨e1, e2, e3⟩
      exact ⟨e1, _, e2, rfl, e3⟩
    · cases hs
theorem zero8_fill (mem : List Nat) (f : Nat) : zero8 mem f = fillM mem f [0, 0, 0, 0, 0, 0, 0, 0] := rfl
theorem mk_eight (w : World) : (Instr.makeSlice 80 (.int .i64 8) (.int .i64 8)).run Tryz.prog w = .ok (.slice (some ⟨w.heap.size, 0, none⟩) 8 8) (w.alloc (.cells (u64s 8).toArray 24)) := by kernel_rfl
theorem info_ppage : (Tryz.prog.info? 125).map (fun i => (i.zero, i.size, i.bytes)) = some (some (.pointer none), 1, 8) := by kernel_rfl
set_option maxRecDepth 100000 in
set_option maxHeartbeats 2000000 in
theorem make_no {w0 w : World} {A : GAd} {P : Pm} {V : GVl} {G : GS} {ts : List Thing} (H : HG w0 w A P V G ts) (kg kv kr : Int) (hm : smake P G.s ⟨kg, kv, kr⟩ = none) :
    Calls Tryz.prog 27 #[.pointer (some ⟨A.sp, 0, none⟩), .agg #[.int .i64 kg, .int .i64 kv, .int .i64 kr]] w
      fun e w' => e = .returned (.tuple #[.int .i64 0, .bool false]) ∧ Below w.heap.size w w' := by
  have b0 := bal w (.cells #[.int .i64 kg, .int .i64 kv, .int .i64 kr] 54)
  have hz := Blk.new w 54 [.int .i64 kg, .int .i64 kv, .int .i64 kr]
  obtain ⟨wz, hwz⟩ : ∃ wz, w.alloc (.cells #[.int .i64 kg, .int .i64 kv, .int .i64 kr] 54) = wz := ⟨_, rfl⟩
  rw [show (w.alloc (.cells [Value.int .i64 kg, .int .i64 kv, .int .i64 kr].toArray 54)) = wz from hwz] at hz
  rw [hwz] at b0
  have H1 := H.past b0
  obtain ⟨of, hof⟩ : ∃ o, sfind G.s.ps ⟨kg, kv, kr⟩ = o := ⟨_, rfl⟩
  have hfi := fun W (hW : Below wz.heap.size wz W) => sfind_any (H1.past hW).sx kg kv kr of hof
  obtain ⟨rb, hrb⟩ : ∃ b, kright ⟨kg, kv, kr⟩ = b := ⟨_, rfl⟩
  have hri := fun W => right_any W kg kv kr rb hrb
  obtain ⟨zb, hzb⟩ : ∃ zb, w.heap.size = zb := ⟨_, rfl⟩
  rw [hzb] at hz
  unfold smake at hm
  rw [hof, hrb] at hm
  have HFi := Lib.hid hfi
  have HRi := Lib.hid hri
  have HZ := Lib.hid hz
  have HW := Lib.hid hwz
  have HZB := Lib.hid hzb
  have HB0 := Lib.hid b0
  clear hfi hri hz hwz hzb b0 hof hrb
  cases of with
  | some q =>
    clear H H1 hm
    dsimp only [Option.getD_some, Option.isSome_some] at HFi
    go_enter Tryz.func27, Tryz.ntmps27
    go_wp2_with fail
    rw [HW.out, HZB.out]
    have z0 := HZ.out.cell (k := 0) rfl
    have z1 := HZ.out.cell (k := 1) rfl
    have z2 := HZ.out.cell (k := 2) rfl
    have lz := HZ.out.lt
    go_wp2_with (go_at_call 17; (with_reducible refine (HFi.out _ (Below.refl _ _)).mono ?_); rintro e W1 ⟨rfl, b1⟩)
    go_ret2
    exact ⟨rfl, HB0.out.trans (b1.mono HB0.out.size)⟩
  | none =>
    dsimp only [Option.getD_none, Option.isSome_none] at HFi
    simp only [Option.isSome_none, Bool.false_or] at hm
    cases rb with
    | false =>
      clear H H1 hm
      go_enter Tryz.func27, Tryz.ntmps27
      go_wp2_with fail
      rw [HW.out, HZB.out]
      have z0 := HZ.out.cell (k := 0) rfl
      have z1 := HZ.out.cell (k := 1) rfl
      have z2 := HZ.out.cell (k := 2) rfl
      have lz := HZ.out.lt
      go_wp2_with (first
        | (go_at_call 17; (with_reducible refine (HFi.out _ (Below.refl _ _)).mono ?_); rintro e W1 ⟨rfl, b1⟩; have Z1 := HZ.out.past b1; have y0 := Z1.cell (k := 0) rfl; have y1 := Z1.cell (k := 1) rfl; have y2 := Z1.cell (k := 2) rfl; have ly := Z1.lt)
        | (go_at_call 79; (with_reducible refine (HRi.out _).mono ?_); rintro e W2 ⟨rfl, b2⟩))
      go_ret2
      exact ⟨rfl, HB0.out.trans ((b1.trans (b2.mono b1.size)).mono HB0.out.size)⟩
    | true =>
      have hst : stake P G.s = none := by
        cases h : stake P G.s with
        | none => rfl
        | some t => rw [h] at hm; simp at hm
      have hta := fun W (hW : Below wz.heap.size wz W) => take_none (H1.past hW).sx hst
      have hhd := fun W (hW : Below wz.heap.size wz W) => (H1.past hW).sx.hdr.cell (k := 1) rfl
      have lsp := H1.sx.hdr.lt
      have HTa := Lib.hid hta
      have HHd := Lib.hid hhd
      clear H H1 hm hta hhd hst
      go_enter Tryz.func27, Tryz.ntmps27
      go_wp2_with fail
      rw [HW.out, HZB.out]
      have z0 := HZ.out.cell (k := 0) rfl
      have z1 := HZ.out.cell (k := 1) rfl
      have z2 := HZ.out.cell (k := 2) rfl
      have lz := HZ.out.lt
      go_wp2_with (first
        | (go_at_call 17; (with_reducible refine (HFi.out _ (Below.refl _ _)).mono ?_); rintro e W1 ⟨rfl, b1⟩; have Z1 := HZ.out.past b1; have y0 := Z1.cell (k := 0) rfl; have y1 := Z1.cell (k := 1) rfl; have y2 := Z1.cell (k := 2) rfl; have ly := Z1.lt)
        | (go_at_call 79; (with_reducible refine (HRi.out _).mono ?_); rintro e W2 ⟨rfl, b2⟩; have b12 := b1.trans (b2.mono b1.size); have hh := HHd.out W2 b12; have lh := Nat.lt_of_lt_of_le lsp b12.size)
        | (go_at_call 80; (with_reducible refine (HTa.out W2 b12).mono ?_); rintro e W3 ⟨rfl, b3⟩))
      go_ret2
      exact ⟨rfl, HB0.out.trans ((b12.trans (b3.mono b12.size)).mono HB0.out.size)⟩

set_option maxRecDepth 100000 in
set_option maxHeartbeats 4000000 in
theorem make_yes {w0 w : World} {A : GAd} {P : Pm} {V : GVl} {G : GS} {ts : List Thing} (H : HG w0 w A P V G ts) (kg kv kr f : Int) (S' : SS) (hm : smake P G.s ⟨kg, kv, kr⟩ = some (f, S')) :
    Calls Tryz.prog 27 #[.pointer (some ⟨A.sp, 0, none⟩), .agg #[.int .i64 kg, .int .i64 kv, .int .i64 kr]] w
      fun e w' => e = .returned (.tuple #[.int .i64 f, .bool true]) ∧ ∃ V', HG w0 w' A P V' { G with s := S' } ts := by
  have b0 := bal w (.cells #[.int .i64 kg, .int .i64 kv, .int .i64 kr] 54)
  have hz := Blk.new w 54 [.int .i64 kg, .int .i64 kv, .int .i64 kr]
  obtain ⟨wz, hwz⟩ : ∃ wz, w.alloc (.cells #[.int .i64 kg, .int .i64 kv, .int .i64 kr] 54) = wz := ⟨_, rfl⟩
  rw [show (w.alloc (.cells [Value.int .i64 kg, .int .i64 kv, .int .i64 kr].toArray 54)) = wz from hwz] at hz
  rw [hwz] at b0
  have H1 := H.past b0
  obtain ⟨m1, m2, m3, _, m4, m5⟩ := smake_forms H.inv hm
  obtain ⟨n', b', hst, hS'⟩ : ∃ n' b', stake P G.s = some (f, n', b') ∧ S' = smade G.s ⟨kg, kv, kr⟩ f n' b' := by
    unfold smake at hm
    rw [m1, m2] at hm
    simp only [Option.isSome_none, Bool.not_true, Bool.or_false, Bool.false_eq_true, if_false] at hm
    cases h : stake P G.s with
    | none => rw [h] at hm; simp at hm
    | some t =>
      rw [h] at hm
      simp only [Option.map_some, Option.some.injEq, Prod.mk.injEq] at hm
      obtain ⟨e1, e2⟩ := hm
      obtain ⟨t1, t2, t3⟩ := t
      exact ⟨t2, t3, by rw [← e1], by rw [← e1, ← e2]⟩
  subst hS'
  have hinv := smake_inv H.inv hm
  obtain ⟨fn, rfl⟩ : ∃ fn : Nat, f = (fn : Int) := Int.eq_ofNat_of_zero_le (by omega)
  have hfl : fn < P.n := by have h2 := H.inv.top; omega
  have hfi := fun W (hW : Below wz.heap.size wz W) => sfind_any (H1.past hW).sx kg kv kr none m1
  dsimp only [Option.getD_none, Option.isSome_none] at hfi
  have hri := fun W => right_any W kg kv kr true m2
  have hta := fun W (hW : Below wz.heap.size wz W) => take_some (H1.past hW).sx hst
  have hhd := fun W (hW : Below wz.heap.size wz W) => (H1.past hW).sx.hdr.cell (k := 1) rfl
  have lsp := H1.sx.hdr.lt
  obtain ⟨zb, hzb⟩ : ∃ zb, w.heap.size = zb := ⟨_, rfl⟩
  rw [hzb] at hz
  have hle := H.inv.le
  have HFi := Lib.hid hfi
  have HRi := Lib.hid hri
  have HTa := Lib.hid hta
  have HHd := Lib.hid hhd
  have HZ := Lib.hid hz
  have HW := Lib.hid hwz
  have HZB := Lib.hid hzb
  have HH := Lib.hid H1
  have HInv := Lib.hid hinv
  clear hfi hri hta hhd hz hwz hzb b0 H H1 m1 m2 m3 m4 m5 hst hm hinv
  go_enter Tryz.func27, Tryz.ntmps27
  go_wp2_with fail
  rw [HW.out, HZB.out]
  have z0 := HZ.out.cell (k := 0) rfl
  have z1 := HZ.out.cell (k := 1) rfl
  have z2 := HZ.out.cell (k := 2) rfl
  have lz := HZ.out.lt
  go_wp2_with (first
    | (go_at_call 17; (with_reducible refine (HFi.out _ (Below.refl _ _)).mono ?_); rintro e W1 ⟨rfl, b1⟩; have Z1 := HZ.out.past b1; have y0 := Z1.cell (k := 0) rfl; have y1 := Z1.cell (k := 1) rfl; have y2 := Z1.cell (k := 2) rfl; have ly := Z1.lt)
    | (go_at_call 79; (with_reducible refine (HRi.out _).mono ?_); rintro e W2 ⟨rfl, b2⟩; have b12 := b1.trans (b2.mono b1.size); have hh := HHd.out W2 b12; have lh := Nat.lt_of_lt_of_le lsp b12.size)
    | (go_at_call 80; (with_reducible refine (HTa.out W2 b12).mono ?_); rintro e W3 ⟨rfl, bv', F3, ob3, K3⟩))
  have H2 := HH.out.past b12
  have X2 := H2.sx
  have hZ3 := X2.take_blk K3 (HZ.out.past b12) (by decide) (by decide)
  have hD3 := X2.take_blk K3 X2.hdr (by decide) (by decide)
  have hR3 : RowP W3 V.pv V.pbs := X2.row.keep fun c hc => by
    obtain ⟨xs, hb⟩ := X2.row.own_blk hc
    have h3 := X2.take_blk K3 hb (by decide) (by decide)
    unfold Blk at h3 hb
    rw [h3, hb]
  have HK3 := Lib.hid K3
  have HF3 := Lib.hid F3
  have HOb := Lib.hid ob3
  have HH2 := Lib.hid H2
  have HX2 := Lib.hid X2
  have HZ3 := Lib.hid hZ3
  have HD3 := Lib.hid hD3
  have HR3 := Lib.hid hR3
  clear K3 F3 ob3 H2 X2 hZ3 hD3 hR3 z0 z1 z2 lz y0 y1 y2 ly hh lh b1 b2 Z1
  have z0 := HZ3.out.cell (k := 0) rfl
  have z1 := HZ3.out.cell (k := 1) rfl
  have z2 := HZ3.out.cell (k := 2) rfl
  have lz := HZ3.out.lt
  have d2 := HD3.out.cell (k := 2) rfl
  have df := fun k => HD3.out.free k
  have ld := HD3.out.lt
  obtain ⟨i0, hi, hz0, hz1, hz2⟩ := info_parts info_ppage
  obtain ⟨pv, hpv⟩ : ∃ pv, V.pv = pv := ⟨_, rfl⟩
  obtain ⟨ln, hln⟩ : ∃ n, V.pbs.length = n := ⟨_, rfl⟩
  have hlb : ln ≤ 256 := by rw [← hln, HX2.out.plen]; exact hle.1
  have hrw0 : W3.ownsRow 0 125 1 pv ln (V.pbs.map valP) := by rw [← hpv, ← hln]; exact HR3.out
  have hone : pv.oneCell' = true := by rw [← hpv]; exact HR3.out.one
  rw [hpv] at d2
  have hB3 : Below W3.heap.size W3 ((W3.drew.alloc (.cells #[.int .i64 (fn : Int), .int .i64 kg, .int .i64 kv, .int .i64 kr, .int .i64 0, .int .i64 0, .bool false, .bool false, .bool false, .int .i64 0, .int .i64 0, .bool false, .bool false, .bool false, .int .i64 0, .int .i64 0, .bool false, .bool false, .bool false, .int .i64 0, .int .i64 0, .bool false, .bool false, .bool false, .int .i64 0, .int .i64 0, .bool false, .bool false, .bool false, .int .i64 0, .int .i64 0, .bool false, .bool false, .bool false, .int .i64 0, .int .i64 0, .bool false, .bool false, .bool false, .int .i64 0, .int .i64 0, .bool false, .bool false, .bool false] 128)).alloc (.cells #[.pointer (some ⟨W3.heap.size, 0, none⟩)] 125)) := ((Below.refl _ W3).drew.alloc (Nat.le_refl _) _).alloc (by simp) _
  have hown : (((W3.drew.alloc (.cells #[.int .i64 (fn : Int), .int .i64 kg, .int .i64 kv, .int .i64 kr, .int .i64 0, .int .i64 0, .bool false, .bool false, .bool false, .int .i64 0, .int .i64 0, .bool false, .bool false, .bool false, .int .i64 0, .int .i64 0, .bool false, .bool false, .bool false, .int .i64 0, .int .i64 0, .bool false, .bool false, .bool false, .int .i64 0, .int .i64 0, .bool false, .bool false, .bool false, .int .i64 0, .int .i64 0, .bool false, .bool false, .bool false, .int .i64 0, .int .i64 0, .bool false, .bool false, .bool false, .int .i64 0, .int .i64 0, .bool false, .bool false, .bool false] 128)).alloc (.cells #[.pointer (some ⟨W3.heap.size, 0, none⟩)] 125))).ownsRow 0 125 1 pv ln (V.pbs.map valP) := nrow_past hrw0 hB3
  have hpg : Blk ((W3.drew.alloc (.cells #[.int .i64 (fn : Int), .int .i64 kg, .int .i64 kv, .int .i64 kr, .int .i64 0, .int .i64 0, .bool false, .bool false, .bool false, .int .i64 0, .int .i64 0, .bool false, .bool false, .bool false, .int .i64 0, .int .i64 0, .bool false, .bool false, .bool false, .int .i64 0, .int .i64 0, .bool false, .bool false, .bool false, .int .i64 0, .int .i64 0, .bool false, .bool false, .bool false, .int .i64 0, .int .i64 0, .bool false, .bool false, .bool false, .int .i64 0, .int .i64 0, .bool false, .bool false, .bool false, .int .i64 0, .int .i64 0, .bool false, .bool false, .bool false] 128)).alloc (.cells #[.pointer (some ⟨W3.heap.size, 0, none⟩)] 125)) W3.heap.size 128 (pgC ⟨(fn : Int), ⟨kg, kv, kr⟩, List.replicate 8 slt0⟩) := (Blk.new W3.drew 128 (pgC ⟨(fn : Int), ⟨kg, kv, kr⟩, List.replicate 8 slt0⟩)).alloc _
  have hnews : ∀ j u, [Value.pointer (some ⟨W3.heap.size, 0, none⟩)][j]? = some u → (((W3.drew.alloc (.cells #[.int .i64 (fn : Int), .int .i64 kg, .int .i64 kv, .int .i64 kr, .int .i64 0, .int .i64 0, .bool false, .bool false, .bool false, .int .i64 0, .int .i64 0, .bool false, .bool false, .bool false, .int .i64 0, .int .i64 0, .bool false, .bool false, .bool false, .int .i64 0, .int .i64 0, .bool false, .bool false, .bool false, .int .i64 0, .int .i64 0, .bool false, .bool false, .bool false, .int .i64 0, .int .i64 0, .bool false, .bool false, .bool false, .int .i64 0, .int .i64 0, .bool false, .bool false, .bool false, .int .i64 0, .int .i64 0, .bool false, .bool false, .bool false] 128)).alloc (.cells #[.pointer (some ⟨W3.heap.size, 0, none⟩)] 125))).cell? ((⟨W3.heap.size + 1, 0, none⟩ : Addr).add j) = some u := by
    have := cell_one_new (W3.drew.alloc (.cells #[.int .i64 (fn : Int), .int .i64 kg, .int .i64 kv, .int .i64 kr, .int .i64 0, .int .i64 0, .bool false, .bool false, .bool false, .int .i64 0, .int .i64 0, .bool false, .bool false, .bool false, .int .i64 0, .int .i64 0, .bool false, .bool false, .bool false, .int .i64 0, .int .i64 0, .bool false, .bool false, .bool false, .int .i64 0, .int .i64 0, .bool false, .bool false, .bool false, .int .i64 0, .int .i64 0, .bool false, .bool false, .bool false, .int .i64 0, .int .i64 0, .bool false, .bool false, .bool false, .int .i64 0, .int .i64 0, .bool false, .bool false, .bool false] 128)) (.pointer (some ⟨W3.heap.size, 0, none⟩)) 125
    simpa using this
  have hTd := HD3.out.past hB3
  have hZd := HZ3.out.past hB3
  have hon : ∀ u ∈ [Value.pointer (some ⟨W3.heap.size, 0, none⟩)], u.oneCell' = true := by intro u hu; simp at hu; subst hu; rfl
  have HOw := Lib.hid hown
  have HPg := Lib.hid hpg
  have HNw := Lib.hid hnews
  have HTd := Lib.hid hTd
  have HZd := Lib.hid hZd
  have HB3 := Lib.hid hB3
  have HOn := Lib.hid hon
  have H1' := Lib.hid hi
  have HZ0' := Lib.hid hz0
  have HZ1' := Lib.hid hz1
  have HZ2' := Lib.hid hz2
  have HPv := Lib.hid hpv
  have HLn := Lib.hid hln
  clear hown hpg hnews hTd hZd hB3 hi hz0 hz1 hz2 hpv hln hrw0 hon
  go_region_law (refine step_append_lies _ rfl (.tmp 36) (.tmp 41) 122 rfl 0 125 i0 (.pointer none) 1 8 Tryz.underlying122 H1'.out HZ0'.out HZ1'.out HZ2'.out rfl (by decide) _ ln _ (by simp [Act.eval]) HOw.out ⟨W3.heap.size + 1, 0, none⟩ 1 1 [Value.pointer (some ⟨W3.heap.size, 0, none⟩)] (by simp [Act.eval]) rfl HNw.out HOn.out (by omega) (by unfold maxLen; omega) (by omega) (Nat.zero_le _) _ rfl ?_; intro g cap w3 hown3 hgrow3 hat3 hlt3; have hT3 := HTd.out.grownRow HOw.out (by decide) hgrow3; have q2 := hT3.cell (k := 2) rfl; have qf := fun j => hT3.free j; have lq := hT3.lt; have HO3 := Lib.hid hown3; have HG3 := Lib.hid hgrow3; have HA3 := Lib.hid hat3; have HT3 := Lib.hid hT3; clear hown3 hgrow3 hat3 hT3)
  all_goals
    have hnp : W3.heap.size ≠ A.sp := by omega
    have hpgP := (HPg.out.grownRow HOw.out (by decide) HG3.out).other (a := ⟨A.sp, 2, none⟩) hnp (.slice (some ⟨g, 0, none⟩) (ln + 1) cap)
    have hhdr := HT3.out.set 2 (.slice (some ⟨g, 0, none⟩) (ln + 1) cap)
    have hrowP : RowP (w3.setCell ⟨A.sp, 2, none⟩ (.slice (some ⟨g, 0, none⟩) (ln + 1) cap)) (.slice (some ⟨g, 0, none⟩) (ln + 1) cap) (V.pbs ++ [W3.heap.size]) := by
      have h := nrow_setO HO3.out HT3.out (by decide) 2 (.slice (some ⟨g, 0, none⟩) (ln + 1) cap)
      unfold RowP
      rw [List.length_append, HLn.out, List.map_append]
      exact h
    have KP : Kept W3.heap.size (fun k => V.pv.ownBlock = some k ∨ k = A.sp) W3 (w3.setCell ⟨A.sp, 2, none⟩ (.slice (some ⟨g, 0, none⟩) (ln + 1) cap)) :=
      (kept_row (Kept.of_below HB3.out) HB3.out.size HG3.out (fun r e => .inl (.inl (by rw [HPv.out]; exact e)))).setCell (p := ⟨A.sp, 2, none⟩) (.inl (.inr rfl)) _
    have hv : (Value.slice (some ⟨g, 0, none⟩) (ln + 1) cap).ownBlock = V.pv.ownBlock ∨ ∀ k, (Value.slice (some ⟨g, 0, none⟩) (ln + 1) cap).ownBlock = some k → W3.heap.size ≤ k := by
      rcases HA3.out with h | h
      · exact .inl (by rw [HPv.out]; exact h.symm)
      · refine .inr fun k hk => ?_
        have hk' : g = k := Option.some.inj hk
        rw [← hk', h]
        have := HB3.out.size
        exact this
    obtain ⟨x1, x2, x3⟩ := SX.made HX2.out HK3.out HF3.out HOb.out (Nat.le_refl _) hpgP hrowP hhdr KP hv HInv.out
    have H4 := Hold.step HH2.out 2 (stor A P { V with pv := .slice (some ⟨g, 0, none⟩) (ln + 1) cap, pbs := V.pbs ++ [W3.heap.size], bv := bv' } { G.s with ps := G.s.ps ++ [⟨(fn : Int), ⟨kg, kv, kr⟩, List.replicate 8 slt0⟩], fresh := n', back := b' }) rfl x1 x2 x3
    have H4 : HG w0 (w3.setCell ⟨A.sp, 2, none⟩ (.slice (some ⟨g, 0, none⟩) (ln + 1) cap)) A P { V with pv := .slice (some ⟨g, 0, none⟩) (ln + 1) cap, pbs := V.pbs ++ [W3.heap.size], bv := bv' } { G with s := { G.s with ps := G.s.ps ++ [⟨(fn : Int), ⟨kg, kv, kr⟩, List.replicate 8 slt0⟩], fresh := n', back := b' } } ts := H4
    obtain ⟨V1, hV1⟩ : ∃ V1 : GVl, { V with pv := .slice (some ⟨g, 0, none⟩) (ln + 1) cap, pbs := V.pbs ++ [W3.heap.size], bv := bv' } = V1 := ⟨_, rfl⟩
    obtain ⟨W4, hW4⟩ : ∃ W4, w3.setCell ⟨A.sp, 2, none⟩ (.slice (some ⟨g, 0, none⟩) (ln + 1) cap) = W4 := ⟨_, rfl⟩
    rw [hV1, hW4] at H4
    rw [hW4]
    clear hnp hpgP hhdr hrowP KP hv x1 x2 x3 hW4 hV1 q2 qf lq z0 z1 z2 lz d2 df ld HPg HOw HNw HTd HZd HB3 HOn H1' HZ0' HZ1' HZ2' HPv HLn HO3 HG3 HA3 HT3 hlt3
    go_wp2_with fail
    have hmk := mk_eight
    have hbl : Blk (W4.alloc (.cells (u64s 8).toArray 24)).drew W4.heap.size 24 (u64s 8) := (Blk.new W4 24 (u64s 8)).drew
    have H5 := H4.past ((Below.refl _ W4).alloc (Nat.le_refl _) (.cells (u64s 8).toArray 24)).drew
    have hfill := fill8_any _ A.fp A.fb P.n G.s.mem H5.host fn W4.heap.size 0 8 0 0 0 0 0 0 0 0 hfl (hbl.ne H5.host.row (by decide)) (fun j v hj => by
      rw [Nat.zero_add]
      match j, hj with
      | 0, hj => cases hj; exact hbl.cell rfl
      | 1, hj => cases hj; exact hbl.cell rfl
      | 2, hj => cases hj; exact hbl.cell rfl
      | 3, hj => cases hj; exact hbl.cell rfl
      | 4, hj => cases hj; exact hbl.cell rfl
      | 5, hj => cases hj; exact hbl.cell rfl
      | 6, hj => cases hj; exact hbl.cell rfl
      | 7, hj => cases hj; exact hbl.cell rfl
      | j + 8, hj => simp at hj) (fun x hx => by simp at hx; omega)
    have d0 := H4.sx.hdr.cell (k := 0) rfl
    have ld := H4.sx.hdr.lt
    obtain ⟨us, hus⟩ : ∃ us, u64s 8 = us := ⟨_, rfl⟩
    rw [hus] at hmk hfill H5
    have HFl := Lib.hid hfill
    have HH5 := Lib.hid H5
    have HH4 := Lib.hid H4
    clear hfill H5 H4 hus hbl
    go_region_held3 (fun w' => w'.cell? ⟨A.sp, 0, none⟩ = some (.pointer (some ⟨A.fp, 0, none⟩))) (go_keep) (first
      | (go_at_call 81; (with_reducible refine HFl.out.mono ?_); rintro e W6 ⟨rfl, h6, k6⟩; have H6 := Hold.step HH5.out 0 (hst A P (fillM G.s.mem fn [0, 0, 0, 0, 0, 0, 0, 0])) rfl h6 (k6.mono (Nat.le_refl _) (fun b _ e => .inr e)) (fun _ h => .inl h); have x6 : SX W6 P A V1 { G.s with ps := G.s.ps ++ [⟨(fn : Int), ⟨kg, kv, kr⟩, List.replicate 8 slt0⟩], fresh := n', back := b' } := H6.at 2 rfl; have e0 := x6.hdr.cell (k := 0) rfl; have HH6 := Lib.hid H6; have HX6 := Lib.hid x6; clear h6 k6 H6 x6))
  all_goals
    go_wp2
    go_ret2
    have h7 := HH6.out.weak 2 (stor A P V1 (smade G.s ⟨kg, kv, kr⟩ (fn : Int) n' b')) rfl (HX6.out.mem (zero8 G.s.mem fn) (by rw [zero8_len])) (fun _ h => h)
    exact ⟨rfl, V1, h7⟩
end Go.Proofs.YtglohconhbcchaaGreatDoor

namespace Go.Proofs.YtglohconhbcchaaGreatDoor
open Go.RowKit Go.Shelf Go.Maps

section
variable {w0 w : World} {A : GAd} {P : Pm} {V : GVl} {G : GS} {ts : List Thing}
theorem HG.add (H : HG w0 w A P V G ts) {w' : World} (hb : Below w.heap.size w w') (t : Thing) (hs : t.so w') (hn : ∀ b, t.own b → w.heap.size ≤ b) : HG w0 w' A P V G (t :: ts) :=
  (Hold.add H hb t hs hn).perm List.perm_middle
theorem HG.tail {t : Thing} (H : HG w0 w A P V G (t :: ts)) : HG w0 w A P V G ts := Hold.sub H (List.Sublist.append_left (List.sublist_cons_self t ts) _)
theorem HG.top {t : Thing} (H : HG w0 w A P V G (t :: ts)) : t.so w := Hold.at H 5 rfl
theorem HG.top2 {t u : Thing} (H : HG w0 w A P V G (t :: u :: ts)) : u.so w := Hold.at H 6 rfl
end
/-- places, in a slice made since -/
def ats (v : Value) (l : List (Int × Int)) : Thing where
  own k := v.ownBlock = some k
  so w := NewA 0 w v l
  lt w h k hk := by
    rcases h with ⟨_, ⟨e, _⟩ | ⟨g, cap, cur, e, _, h3, _⟩⟩
    · rw [e] at hk; simp [Value.ownBlock] at hk
    · rw [e] at hk; simp [Value.ownBlock] at hk; subst hk; exact lt_of_block h3
  keep w w' h _ hk := by
    rcases h with ⟨h0, h | ⟨g, cap, cur, e, h2, h3, h4⟩⟩
    · exact ⟨h0, .inl h⟩
    · exact ⟨h0, .inr ⟨g, cap, cur, e, h2, (hk g (by rw [e]; rfl)).trans h3, h4⟩⟩
theorem NewA.base {B B' : Nat} {w : World} {v : Value} {l : List (Int × Int)} (h : NewA B w v l) (hB : B' ≤ B) : NewA B' w v l := by
  rcases h with ⟨h0, h | ⟨g, cap, cur, h1, h2, h3⟩⟩
  · exact ⟨h0, .inl h⟩
  · exact ⟨h0, .inr ⟨g, cap, cur, h1, Nat.le_trans hB h2, h3⟩⟩
theorem NewA.lo {B : Nat} {w : World} {v : Value} {l : List (Int × Int)} (h : NewA B w v l) : ∀ b, v.ownBlock = some b → B ≤ b := by
  rcases h with ⟨_, ⟨rfl, _⟩ | ⟨g, cap, cur, rfl, h2, _⟩⟩
  · intro b hb; simp [Value.ownBlock] at hb
  · intro b hb; simp [Value.ownBlock] at hb; omega
/-- a place of a slice -/
theorem NewA.cell {B : Nat} {w : World} {v : Value} {l : List (Int × Int)} (h : NewA B w v l) (k : Nat) (hk : k < l.length) : ∃ b c, v = .slice (some ⟨b, 0, none⟩) l.length c ∧ b < w.heap.size ∧ w.cell? ⟨b, k * 2, none⟩ = some (.int .i64 (l.getD k (0, 0)).1) ∧ w.cell? ⟨b, k * 2 + 1, none⟩ = some (.int .i64 (l.getD k (0, 0)).2) := by
  obtain ⟨a, c, rfl, hs, _⟩ := h.sl
  rcases hs with ⟨_, e⟩ | ⟨b, rest, rfl, hb⟩
  · rw [e] at hk; simp at hk
  · obtain ⟨d0, d1⟩ := Sl.at hb k hk
    exact ⟨b, c, rfl, hb.lt, d0, d1⟩
theorem keepTo_rel {α β : Type} (d : α) (e : β) (l : List α) (m : List β) (bs : List Bool) (R : α → β → Prop) (hlen : l.length = m.length) (h : ∀ (k : Nat) a, l[k]? = some a → ∃ b, m[k]? = some b ∧ R a b) :
    (delB d l bs).length = (delB e m bs).length ∧ ∀ (k : Nat) a, (delB d l bs)[k]? = some a → ∃ b, (delB e m bs)[k]? = some b ∧ R a b := by
  unfold delB keepTo
  rw [hlen]
  refine ⟨by simp, fun k a hk => ?_⟩
  rw [List.getElem?_map] at hk ⊢
  cases hi : ((List.range m.length).filter fun i => !bs.getD i false)[k]? with
  | none => rw [hi] at hk; simp at hk
  | some i =>
    rw [hi] at hk
    simp only [Option.map_some, Option.some.injEq] at hk ⊢
    have hm := List.mem_of_getElem? hi
    have him : i < m.length := by simpa using (List.mem_filter.1 hm).1
    have hil : i < l.length := by omega
    obtain ⟨b, h1, h2⟩ := h i (l.getD i d) (by rw [List.getD, List.getElem?_eq_getElem hil]; rfl)
    refine ⟨b, by rw [List.getD, h1]; rfl, by rw [← hk]; exact h2⟩
theorem delB_sub {α : Type} (d : α) (l : List α) (bs : List Bool) : (delB d l bs).Sublist l := by
  have : ∀ m, m ≤ l.length → (keepTo d l bs m).Sublist (l.take m) := by
    intro m
    induction m with
    | zero => intro _; simp [keepTo]
    | succ m ih =>
      intro hm
      rw [keepTo_succ, List.take_add_one, List.getElem?_eq_getElem (by omega)]
      refine (ih (by omega)).append ?_
      split
      · simp
      · rw [List.getD, List.getElem?_eq_getElem (by omega)]; exact List.Sublist.refl _
  have h := this l.length (Nat.le_refl _)
  rw [List.take_length] at h
  exact h
theorem SX.dropped {Wt Wp Wg : World} {P : Pm} {A : GAd} {V : GVl} {S : SS} {f : Int} {bv' v' : Value} (h : SX Wt P A V S) (KP : Kept Wt.heap.size (fun k => V.pv.ownBlock = some k ∨ k = A.sp) Wt Wp)
    (hrow : RowP Wp v' (delB 0 V.pbs (S.ps.map fun q => decide (q.f = f)))) (ov : v'.ownBlock = V.pv.ownBlock) (hhdr : Blk Wp A.sp 124 [.pointer (some ⟨A.fp, 0, none⟩), .pointer (some ⟨A.flp, 0, none⟩), v'])
    (KG : Kept Wp.heap.size (FSet A.flp A.km V.bv) Wp Wg) (FG : FLX Wg A.flp A.km P.first P.many S.fresh bv' (S.back ++ [f]) ((S.ps.map Pg.f).filter fun g => !decide (g = f))) (ob : OwnN Wp V.bv bv')
    (hinv : SInv P { S with ps := S.ps.filter fun p => !decide (p.f = f), back := S.back ++ [f] }) :
    SX Wg P A { V with pv := v', pbs := delB 0 V.pbs (S.ps.map fun q => decide (q.f = f)), bv := bv' } { S with ps := S.ps.filter fun p => !decide (p.f = f), back := S.back ++ [f] } ∧ Kept Wt.heap.size (SOwn A V) Wt Wg ∧
      (∀ b, SOwn A { V with pv := v', pbs := delB 0 V.pbs (S.ps.map fun q => decide (q.f = f)), bv := bv' } b → SOwn A V b ∨ Wt.heap.size ≤ b) := by
  have hs := KP.size
  have keepP : ∀ {c : Nat} {T : TypeId} {xs : List Value}, Blk Wt c T xs → T ≠ 125 → T ≠ 124 → Blk Wp c T xs := fun {c T xs} hc h1 h2 => by
    refine hc.kept KP hc.lt ?_
    rintro (e | e)
    · obtain ⟨xs', hb⟩ := h.row.own_blk e
      exact h1 (hc.inj hb).2
    · subst e
      exact h2 (hc.inj h.hdr).2
  have hfl := keepP h.fl (by decide) (by decide)
  have hbk : ∀ c, V.bv.ownBlock = some c → ∃ xs, Blk Wp c 3 xs := fun c hc => by
    obtain ⟨xs, hb⟩ := h.back.own_blk hc
    exact ⟨xs, keepP hb (by decide) (by decide)⟩
  have hmp : ∃ es cl, Wp.heap[A.km]? = some (.map es cl) := by
    obtain ⟨es, cl, hm⟩ := h.tk.map
    refine ⟨es, cl, (KP.block _ h.tk.lt ?_).trans hm⟩
    rintro (e | e)
    · obtain ⟨xs', hb⟩ := h.row.own_blk e
      exact map_ne hb hm rfl
    · exact map_ne h.hdr hm e.symm
  have keepG : ∀ {c : Nat} {T : TypeId} {xs : List Value}, Blk Wp c T xs → T ≠ 218 → T ≠ 3 → Blk Wg c T xs := fun {c T xs} hc h1 h2 => by
    refine hc.kept KG hc.lt ?_
    rintro (e | e | e)
    · subst e; exact h1 (hc.inj hfl).2
    · obtain ⟨xs', hb⟩ := hbk c e
      exact h2 (hc.inj hb).2
    · obtain ⟨es, cl, hm⟩ := hmp
      exact map_ne hc hm e
  have hrel := keepTo_rel 0 pg0 V.pbs S.ps (S.ps.map fun q => decide (q.f = f)) (fun b p => Blk Wt b 128 (pgC p)) h.plen h.pg
  have hfil : delB pg0 S.ps (S.ps.map fun q => decide (q.f = f)) = S.ps.filter fun p => !decide (p.f = f) := delB_filter pg0 S.ps _
  rw [hfil] at hrel
  refine ⟨⟨keepG hhdr (by decide) (by decide), ?_, hrel.1, ?_, ?_, FG.fl, FG.row, ?_, hinv⟩, ?_, ?_⟩
  · refine hrow.keep fun c hc => ?_
    obtain ⟨xs, hb⟩ := hrow.own_blk hc
    have := keepG hb (by decide) (by decide)
    unfold Blk at this hb
    rw [this, hb]
  · intro k b hk
    obtain ⟨p, h1, h2⟩ := hrel.2 k b hk
    exact ⟨p, h1, keepG (keepP h2 (by decide) (by decide)) (by decide) (by decide)⟩
  · exact h.pnd.sublist (delB_sub _ _ _)
  · show Keys Wg A.km ((S.ps.filter fun p => !decide (p.f = f)).map Pg.f)
    have e : (S.ps.filter fun p => !decide (p.f = f)).map Pg.f = (S.ps.map Pg.f).filter fun g => !decide (g = f) := by rw [List.filter_map]; rfl
    rw [e]; exact FG.tk
  · refine (KP.mono (Nat.le_refl _) ?_).trans (KG.mono hs ?_)
    · rintro c _ (e | e)
      · exact .inr (.inl e)
      · exact .inl e
    · rintro c _ (e | e | e)
      · exact .inr (.inr (.inr (.inl e)))
      · exact .inr (.inr (.inr (.inr (.inl e))))
      · exact .inr (.inr (.inr (.inr (.inr e))))
  · rintro c (e | e | e | e | e | e)
    · exact .inl (.inl e)
    · exact .inl (.inr (.inl (ov ▸ e)))
    · exact .inl (.inr (.inr (.inl ((delB_sub _ _ _).mem e))))
    · exact .inl (.inr (.inr (.inr (.inl e))))
    · rcases ob with x | x
      · exact .inl (.inr (.inr (.inr (.inr (.inl (x ▸ e))))))
      · exact .inr (Nat.le_trans hs (x c e))
    · exact .inl (.inr (.inr (.inr (.inr (.inr e)))))
theorem SX.fx_kept {Wt Wp : World} {P : Pm} {A : GAd} {V : GVl} {S : SS} (h : SX Wt P A V S) (KP : Kept Wt.heap.size (fun k => V.pv.ownBlock = some k ∨ k = A.sp) Wt Wp) : FLX Wp A.flp A.km P.first P.many S.fresh V.bv S.back (S.ps.map Pg.f) := by
  have keepP : ∀ {c : Nat} {T : TypeId} {xs : List Value}, Blk Wt c T xs → T ≠ 125 → T ≠ 124 → Wp.heap[c]? = Wt.heap[c]? := fun {c T xs} hc h1 h2 => by
    refine KP.block c hc.lt ?_
    rintro (e | e)
    · obtain ⟨xs', hb⟩ := h.row.own_blk e
      exact h1 (hc.inj hb).2
    · subst e
      exact h2 (hc.inj h.hdr).2
  refine ⟨h.fl.of_heap (keepP h.fl (by decide) (by decide)), h.back.keep fun c hc => ?_, h.tk.keep (KP.block _ h.tk.lt ?_)⟩
  · obtain ⟨xs, hb⟩ := h.back.own_blk hc
    exact keepP hb (by decide) (by decide)
  · obtain ⟨es, cl, hm⟩ := h.tk.map
    rintro (e | e)
    · obtain ⟨xs', hb⟩ := h.row.own_blk e
      exact map_ne hb hm rfl
    · exact map_ne h.hdr hm e.symm
theorem dropq_any (w : World) (b fb : Nat) (x f : Int) (hb : w.cell? ⟨b, 0, none⟩ = some (.int .i64 x)) (hf : w.cell? ⟨fb, 0, none⟩ = some (.int .i64 f)) :
    Calls Tryz.prog 174 #[.pointer (some ⟨b, 0, none⟩), .pointer (some ⟨fb, 0, none⟩)] w fun e w' => e = .returned (.bool (decide (x = f))) ∧ Below w.heap.size w w' := by
  have hl := lt_of_cell hb
  have hl' := lt_of_cell hf
  go_enter Tryz.func174, Tryz.ntmps174
  go_wp2_with fail
  go_quiet (fail)
  go_wp2
  go_ret
  exact ⟨by rw [ibeq]; rfl, below_of_drewN _ _⟩

theorem clearAll_take (S : SS) (l : List (Int × Int)) (m : Nat) (hm : m < l.length) : clearAll S (l.take (m + 1)) = (sclear (clearAll S (l.take m)) (l.getD m (0, 0)).1 (l.getD m (0, 0)).2).2 := by
  unfold clearAll
  rw [List.take_add_one, List.getElem?_eq_getElem hm, List.foldl_append, List.getD, List.getElem?_eq_getElem hm]
  rfl
theorem stold_len {P : Pm} {S : SS} (h : SInv P S) (k d : Int) : (stold S.ps k d).length ≤ 8 * 256 := by
  have h1 := h.le.1
  rw [← atsL_stold]
  unfold atsL
  rw [List.length_map]
  refine Nat.le_trans (List.length_filter_le _ _) ?_
  rw [allL_len]
  omega
def ibox (b : Nat) (f : Int) : Thing := box b 3 [.int .i64 f]
theorem HG.drop1 {w0 w : World} {A : GAd} {P : Pm} {V : GVl} {G : GS} {t u : Thing} {ts : List Thing} (H : HG w0 w A P V G (t :: u :: ts)) : HG w0 w A P V G (u :: ts) := H.tail
set_option maxRecDepth 100000 in
set_option maxHeartbeats 4000000 in
theorem drop_no {w0 w : World} {A : GAd} {P : Pm} {V : GVl} {G : GS} {ts : List Thing} (H : HG w0 w A P V G ts) (f : Int) (hp : spage G.s.ps f = none) :
    Calls Tryz.prog 109 #[.pointer (some ⟨A.sp, 0, none⟩), .int .i64 f] w fun e w' => e = .returned (.bool false) ∧ Below w.heap.size w w' := by
  have b0 := bal w (.cells #[.int .i64 f] 3)
  have hz := Blk.new w 3 [.int .i64 f]
  obtain ⟨wz, hwz⟩ : ∃ wz, w.alloc (.cells #[.int .i64 f] 3) = wz := ⟨_, rfl⟩
  rw [show (w.alloc (.cells [Value.int .i64 f].toArray 3)) = wz from hwz] at hz
  rw [hwz] at b0
  have H1 := H.past b0
  have hpg := page_no H1.sx f (H1.sx.nopage hp)
  obtain ⟨zb, hzb⟩ : ∃ zb, w.heap.size = zb := ⟨_, rfl⟩
  rw [hzb] at hz
  have HP := Lib.hid hpg
  have HZ := Lib.hid hz
  have HW := Lib.hid hwz
  have HZB := Lib.hid hzb
  have HB0 := Lib.hid b0
  clear hpg hz hwz hzb b0 H H1 hp
  go_enter Tryz.func109, Tryz.ntmps109
  go_wp2_with fail
  rw [HW.out, HZB.out]
  have z0 := HZ.out.cell (k := 0) rfl
  have lz := HZ.out.lt
  go_wp2_with (go_at_call 68; (with_reducible refine HP.out.mono ?_); rintro e W1 ⟨rfl, b1⟩)
  go_ret
  exact ⟨rfl, HB0.out.trans (b1.mono HB0.out.size)⟩
set_option maxRecDepth 100000 in
set_option maxHeartbeats 4000000 in
theorem drop_yes {w0 w : World} {A : GAd} {P : Pm} {V : GVl} {G : GS} {ts : List Thing} (H : HG w0 w A P V G ts) (f : Int) (p : Pg) (hp : spage G.s.ps f = some p) :
    Calls Tryz.prog 109 #[.pointer (some ⟨A.sp, 0, none⟩), .int .i64 f] w fun e w' => e = .returned (.bool true) ∧ ∃ V', HG w0 w' A P V' { G with s := (sdrop G.s f).2 } ts := by
  have b0 := bal w (.cells #[.int .i64 f] 3)
  have hz := Blk.new w 3 [.int .i64 f]
  obtain ⟨wz, hwz⟩ : ∃ wz, w.alloc (.cells #[.int .i64 f] 3) = wz := ⟨_, rfl⟩
  rw [show (w.alloc (.cells [Value.int .i64 f].toArray 3)) = wz from hwz] at hz
  rw [hwz] at b0
  have H1 : HG w0 wz A P V G (ibox w.heap.size f :: ts) := H.add b0 (ibox w.heap.size f) hz (fun b e => Nat.le_of_eq e.symm)
  obtain ⟨k, b, hkp, hkb, hbl, hpf, hpm, hkl, hk⟩ := H1.sx.at hp
  have hpg := page_yes H1.sx f k b hk hkb
  have hpa := fun W (hW : Below wz.heap.size wz W) => parents_any (H1.past hW).sx f
  obtain ⟨zb, hzb⟩ : ∃ zb, w.heap.size = zb := ⟨_, rfl⟩
  rw [hzb] at hz H1
  have hps := H.inv.pos p hpm
  have hle := H.inv.le
  have hsl := stold_len H.inv 1 f
  have hsi := sdrop_inv H.inv f
  have hse := sdrop_eq hp
  have hinv := H.inv
  have HP := Lib.hid hpg
  have HPa := Lib.hid hpa
  have HZ := Lib.hid hz
  have HW := Lib.hid hwz
  have HZB := Lib.hid hzb
  have HH := Lib.hid H1
  have HSi := Lib.hid hsi
  have HSe := Lib.hid hse
  have HInv := Lib.hid hinv
  have HPm := Lib.hid hpm
  have HPf := Lib.hid hpf
  obtain ⟨L, hL⟩ : ∃ L, stold G.s.ps 1 f = L := ⟨_, rfl⟩
  rw [hL] at HPa hsl HSe
  obtain ⟨ln, hln⟩ : ∃ n, L.length = n := ⟨_, rfl⟩
  rw [hln] at hsl
  have HLn := Lib.hid hln
  clear hpg hpa hz hwz hzb b0 H H1 hkp hkb hbl hpf hpm hk hL hln hsi hse hinv hp
  go_enter Tryz.func109, Tryz.ntmps109
  go_wp2_with fail
  rw [HW.out, HZB.out]
  have z0 := HZ.out.cell (k := 0) rfl
  have lz := HZ.out.lt
  go_wp2_with (first
    | (go_at_call 68; (with_reducible refine HP.out.mono ?_); rintro e W1 ⟨rfl, b1⟩; have y0 := (HZ.out.past b1).cell (k := 0) rfl; have ly := (HZ.out.past b1).lt)
    | (go_at_call 107; (with_reducible refine (HPa.out W1 b1).mono ?_); rintro e W2 ⟨⟨v2, rfl, hr2⟩, b2⟩; obtain ⟨a2, c2, rfl⟩ := hr2.form; rw [HLn.out]; have H2 : HG w0 W2 A P V G (ats (.slice a2 ln c2) L :: ibox zb f :: ts) := by { rw [HLn.out] at hr2; exact (HH.out.past b1).add b2 (ats (.slice a2 ln c2) L) (hr2.base (Nat.zero_le _)) (fun b hb => hr2.lo b hb) }; have HH2 := Lib.hid H2; clear H2 hr2))
  go_loopw [6, 16] (fun _ i wr => ∃ m : Nat, m ≤ ln ∧ i = .int .i64 m ∧ HG w0 wr A P V { G with s := clearAll G.s (L.take m) } (ats (.slice a2 ln c2) L :: ibox zb f :: ts)) (fun _ i _ => ln - (intOf i).toNat)
  case atStart => exact ⟨0, by omega, rfl, HH2.out⟩
  case round =>
    obtain ⟨m, hm, rfl, H3⟩ := hrel
    clear z0 lz y0 ly
    by_cases hml : m < ln
    · obtain ⟨bb, cc, hv, lb, d0, d1⟩ := NewA.cell H3.top m (by rw [HLn.out]; exact hml)
      rw [HLn.out] at hv
      obtain ⟨rfl, rfl⟩ : a2 = some ⟨bb, 0, none⟩ ∧ c2 = cc := by injection hv with h1 h2 h3; exact ⟨h1, h3⟩
      have hct := clearAll_take G.s L m (by rw [HLn.out]; exact hml)
      obtain ⟨⟨x1, x2⟩, hx⟩ : ∃ x, L.getD m (0, 0) = x := ⟨_, rfl⟩
      rw [hx] at d0 d1 hct
      dsimp only at d0 d1 hct
      have hcl := fun W (hW : Below wr.heap.size wr W) => clear_h (H3.past hW) x1 x2
      have B3 := bal wr (.cells #[.int .i64 x1, .int .i64 x2] 78)
      have HCl := Lib.hid hcl
      have HCt := Lib.hid hct
      have HB3 := Lib.hid B3
      clear H3 hcl hct hx hv B3
      go_wp2_with (go_at_call 114; (with_reducible refine (HCl.out _ HB3.out).mono ?_); rintro e W4 ⟨rfl, h4⟩)
      go_roundw
      case rel => exact ⟨m + 1, by omega, by simp, by rw [HCt.out]; exact h4⟩
      case measure => simp [intOf]; omega
    · obtain rfl : m = ln := by omega
      rw [List.take_of_length_le (by rw [HLn.out]; exact Nat.le_refl _)] at H3
      have H4 := H3.drop1
      have HH4 := Lib.hid H4
      clear H3 H4 HH2 hml
      go_wp2_with fail
      go_loopw [7, 27] (fun _ i wr => ∃ q : Nat, q ≤ 8 ∧ i = .int .i64 q ∧ HG w0 wr A P V { G with s := clearAll G.s (L ++ ((List.range 8).map fun (i : Nat) => (f, (i : Int))).take q) } (ibox zb f :: ts)) (fun _ i _ => 8 - (intOf i).toNat)
      case atStart => exact ⟨0, by omega, rfl, by rw [List.take_zero, List.append_nil]; exact HH4.out⟩
      case round =>
        obtain ⟨q, hq, rfl, H5⟩ := hrel
        by_cases hq8 : q < 8
        · have y0 : wr.cell? ⟨zb, 0, none⟩ = some (.int .i64 f) := (show Blk wr zb 3 [.int .i64 f] from H5.top).cell rfl
          have ly := (show Blk wr zb 3 [.int .i64 f] from H5.top).lt
          have hcl := fun W (hW : Below wr.heap.size wr W) => clear_h (H5.past hW) f (q : Int)
          have hct : clearAll G.s (L ++ ((List.range 8).map fun (i : Nat) => (f, (i : Int))).take (q + 1)) = (sclear (clearAll G.s (L ++ ((List.range 8).map fun (i : Nat) => (f, (i : Int))).take q)) f (q : Int)).2 := by
            rw [List.take_add_one, List.getElem?_map, List.getElem?_range hq8]
            unfold clearAll
            rw [← List.append_assoc, List.foldl_append]
            rfl
          have HCl := Lib.hid hcl
          have HCt := Lib.hid hct
          have hqz : (q : Int) < 8 := by omega
          clear H5 hcl hct
          go_wp2_with (go_at_call 114; (with_reducible refine (HCl.out _ (Below.refl _ _)).mono ?_); rintro e W5 ⟨rfl, h5⟩)
          go_roundw
          case rel => exact ⟨q + 1, by omega, by simp, by rw [HCt.out]; exact h5⟩
          case measure => simp [intOf]; omega
        · obtain rfl : q = 8 := by omega
          clear HH4 hq8 hq
          have e8 : ((List.range 8).map fun (i : Nat) => (f, (i : Int))).take 8 = (List.range 8).map fun (i : Nat) => (f, (i : Int)) := rfl
          rw [e8] at H5
          have hTb := foldl_keep (fun T : SS => T.fresh = G.s.fresh ∧ T.back = G.s.back ∧ T.ps.map Pg.f = G.s.ps.map Pg.f) (fun S (a : Int × Int) => (sclear S a.1 a.2).2) (fun T a h => ⟨(sclear_fs T a.1 a.2).2.1.trans h.1, (sclear_fs T a.1 a.2).2.2.trans h.2.1, (sclear_fs T a.1 a.2).1.trans h.2.2⟩) (L ++ (List.range 8).map fun (i : Nat) => (f, (i : Int))) G.s ⟨rfl, rfl, rfl⟩
          change (clearAll _ _).fresh = _ ∧ (clearAll _ _).back = _ ∧ (clearAll _ _).ps.map Pg.f = _ at hTb
          obtain ⟨T, hT⟩ : ∃ T, clearAll G.s (L ++ (List.range 8).map fun (i : Nat) => (f, (i : Int))) = T := ⟨_, rfl⟩
          rw [hT] at H5 hTb HSe
          have hS2 : (sdrop G.s f).2 = ⟨T.mem, T.ps.filter fun p => !decide (p.f = f), T.fresh, T.back ++ [f]⟩ := by
            obtain ⟨_, e1, e2, e3, e4⟩ := HSe.out
            rw [hTb.1, hTb.2.1]
            cases h : (sdrop G.s f).2
            rw [h] at e1 e2 e3 e4
            simp only at e1 e2 e3 e4
            rw [e1, e2, e3, e4]
          have hsi := HSi.out
          rw [hS2] at hsi
          have X5 := H5.sx
          have hyb : Blk wr zb 3 [.int .i64 f] := H5.top
          have hde := delP_any wr V.pv V.pbs 174 #[.pointer (some ⟨zb, 0, none⟩)] (T.ps.map fun q => decide (q.f = f)) X5.row (by rw [List.length_map, X5.plen]) (enters_of Tryz.func174 (by kernel_rfl) rfl) (fun k hk W hW => by
            obtain ⟨p', hp', hb'⟩ := X5.pg k V.pbs[k] (List.getElem?_eq_getElem hk)
            have n1 : ¬ V.pv.ownBlock = some V.pbs[k] := fun e => by
              obtain ⟨xs', hb2⟩ := X5.row.own_blk e
              exact absurd (hb'.inj hb2).2 (by decide)
            have n2 : ¬ V.pv.ownBlock = some zb := fun e => by
              obtain ⟨xs', hb2⟩ := X5.row.own_blk e
              exact absurd (hyb.inj hb2).2 (by decide)
            have := dropq_any W V.pbs[k] zb p'.f f ((hb'.kept hW hb'.lt n1).cell (k := 0) rfl) ((hyb.kept hW hyb.lt n2).cell rfl)
            have e : (T.ps.map fun q => decide (q.f = f)).getD k false = decide (p'.f = f) := by rw [List.getD, List.getElem?_map, hp']; rfl
            rw [e, List.getD, List.getElem?_eq_getElem hk]
            exact this)
          have hhd : ∀ W, Kept wr.heap.size (fun b => V.pv.ownBlock = some b) wr W → Blk W A.sp 124 [.pointer (some ⟨A.fp, 0, none⟩), .pointer (some ⟨A.flp, 0, none⟩), V.pv] ∧ Blk W zb 3 [.int .i64 f] := fun W hW => by
            refine ⟨X5.hdr.kept hW X5.hdr.lt (fun e => ?_), hyb.kept hW hyb.lt (fun e => ?_)⟩
            · obtain ⟨xs', hb2⟩ := X5.row.own_blk e
              exact absurd (X5.hdr.inj hb2).2 (by decide)
            · obtain ⟨xs', hb2⟩ := X5.row.own_blk e
              exact absurd (hyb.inj hb2).2 (by decide)
          have hzs : zb ≠ A.sp := hyb.ne X5.hdr (by decide)
          have c2 := X5.hdr.cell (k := 2) rfl
          have l2 := X5.hdr.lt
          have hone := X5.row.one
          have HDe := Lib.hid hde
          have HHd := Lib.hid hhd
          have HX5 := Lib.hid X5
          have HH5 := Lib.hid H5
          have HS2 := Lib.hid hS2
          have HSi2 := Lib.hid hsi
          have HTb := Lib.hid hTb
          have y0 := hyb.cell (k := 0) rfl
          have ly := hyb.lt
          clear hde hhd X5 H5 hS2 hsi hTb hT hyb HSi HSe
          go_wp2_with (go_at_call 173; (with_reducible refine HDe.out.mono ?_); rintro e W6 ⟨v6, rfl, hr6, ho6, k6⟩; obtain ⟨a6, n6, c6, rfl⟩ : ∃ a n c, v6 = .slice a n c := by { rcases hr6.view with ⟨e, _⟩ | ⟨_, _, _, e, _⟩ <;> exact ⟨_, _, _, e⟩ }; obtain ⟨g1, g2⟩ := HHd.out W6 k6; have x2 := g1.cell (k := 2) rfl; have xf := fun k => g1.free k; have lx := g1.lt; have HR6 := Lib.hid hr6; have HO6 := Lib.hid ho6; have HK6 := Lib.hid k6; have G1 := Lib.hid g1; have G2 := Lib.hid g2; clear hr6 ho6 k6 g1 g2)
          obtain ⟨v6, hv6⟩ : ∃ v6, Value.slice a6 n6 c6 = v6 := ⟨_, rfl⟩
          rw [hv6] at HR6 HO6 ⊢
          have hhdr := G1.out.set 2 v6
          have hzb7 := G2.out.other (a := ⟨A.sp, 2, none⟩) hzs v6
          have hrow7 : RowP (W6.setCell ⟨A.sp, 2, none⟩ v6) v6 (delB 0 V.pbs (T.ps.map fun q => decide (q.f = f))) := RowP.other HR6.out G1.out (by decide) 2 v6
          have KP : Kept wr.heap.size (fun k => V.pv.ownBlock = some k ∨ k = A.sp) wr (W6.setCell ⟨A.sp, 2, none⟩ v6) := (HK6.out.mono (Nat.le_refl _) (fun _ _ e => .inl e)).setCell (p := ⟨A.sp, 2, none⟩) (.inl (.inr rfl)) _
          obtain ⟨W7, hW7⟩ : ∃ W7, W6.setCell ⟨A.sp, 2, none⟩ v6 = W7 := ⟨_, rfl⟩
          rw [hW7] at hhdr hzb7 hrow7 KP ⊢
          have hle2 := HX5.out.inv.le
          have hfr := HInv.out.fr
          rw [HPf.out] at hps
          have hgv := give_yes W7.drew A.flp A.km P.first P.many T.fresh V.bv T.back f (T.ps.map Pg.f) (HX5.out.fx_kept (KP.drewN 1)) (by rw [HTb.out.2.2, ← HPf.out]; exact List.mem_map_of_mem HPm.out) HX5.out.inv.ndf (by omega) (by rw [List.length_map]; omega) (by omega)
          have q1 := hhdr.cell (k := 1) rfl
          have lq := hhdr.lt
          have w0' := hzb7.cell (k := 0) rfl
          have lw := hzb7.lt
          have HGv := Lib.hid hgv
          have HHr := Lib.hid hhdr
          have HRw := Lib.hid hrow7
          have HKP := Lib.hid KP
          clear hgv hhdr hrow7 KP hW7 x2 xf lx y0 ly c2 l2
          go_region_held3 (fun w' => w'.cell? ⟨A.sp, 1, none⟩ = some (.pointer (some ⟨A.flp, 0, none⟩)) ∧ w'.cell? ⟨zb, 0, none⟩ = some (.int .i64 f)) (go_keep) (first
            | (go_at_call 175; (with_reducible refine HGv.out.mono ?_); rintro e W8 ⟨rfl, bv', f8, ob8, k8⟩; obtain ⟨x8, kk, oo⟩ := SX.dropped HX5.out (HKP.out.drewN 1) (HRw.out.past (Below.refl _ W7).drew) HO6.out HHr.out.drew k8 f8 ob8 HSi2.out; have H8 := Hold.step HH5.out 2 (stor A P { V with pv := v6, pbs := delB 0 V.pbs (T.ps.map fun q => decide (q.f = f)), bv := bv' } { T with ps := T.ps.filter fun p => !decide (p.f = f), back := T.back ++ [f] }) rfl x8 kk oo; have e1 := x8.hdr.cell (k := 1) rfl; have e2 := (show Blk W8 zb 3 [.int .i64 f] from H8.at 5 rfl).cell (k := 0) rfl; have HH8 := Lib.hid H8; clear f8 ob8 k8 x8 kk oo H8))
          all_goals go_wp2
          all_goals go_ret
          all_goals
            refine ⟨rfl, { V with pv := v6, pbs := delB 0 V.pbs (T.ps.map fun q => decide (q.f = f)), bv := bv' }, ?_⟩
            have h8 : HG w0 W8 A P { V with pv := v6, pbs := delB 0 V.pbs (T.ps.map fun q => decide (q.f = f)), bv := bv' } { G with s := { T with ps := T.ps.filter fun p => !decide (p.f = f), back := T.back ++ [f] } } (ibox zb f :: ts) := HH8.out
            rw [HS2.out]
            exact h8.tail
end Go.Proofs.YtglohconhbcchaaGreatDoor
