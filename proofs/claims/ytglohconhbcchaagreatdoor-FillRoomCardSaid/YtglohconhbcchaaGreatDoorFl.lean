/- Layer 17: Fill. -/
import Derived.Test.YtglohconhbcchaaGreatDoorFe
import Derived.Test.YtglohconhbcchaaGreatDoorFt
import Derived.Deep.DeepCutAuto
namespace Go.Proofs.YtglohconhbcchaaGreatDoor
open Go.RowKit Go.Shelf Go.Maps

def jst (P : Pm) (l : List Key) (J : JS) : Nat → JS
  | 0 => J
  | k + 1 => (jtake P (jst P l J k) (l.getD k key0)).2
def jbk (P : Pm) (l : List Key) (J : JS) (k : Nat) : Bool := (jtake P (jst P l J k) (l.getD k key0)).1
theorem drop_get (l : List Key) (k : Nat) (hk : k < l.length) : l.drop k = l.getD k key0 :: l.drop (k + 1) := by
  rw [List.drop_eq_getElem_cons hk, List.getD, List.getElem?_eq_getElem hk]; rfl
theorem jtakes_drop (P : Pm) (l : List Key) (J : JS) : ∀ k, k ≤ l.length → (∀ j, j < k → jbk P l J j = true) → jtakes P l J = jtakes P (l.drop k) (jst P l J k)
  | 0, _, _ => rfl
  | k + 1, hk, h => by
    rw [jtakes_drop P l J k (by omega) (fun j hj => h j (by omega)), drop_get l k (by omega), jtakes, if_pos (show (jtake P (jst P l J k) (l.getD k key0)).1 = true from h k (by omega))]; rfl
theorem jtakes_stop (P : Pm) (l : List Key) (J : JS) (k : Nat) (hk : k < l.length) (h : ∀ j, j < k → jbk P l J j = true) (hf : jbk P l J k = false) : jtakes P l J = (false, jst P l J (k + 1)) := by
  rw [jtakes_drop P l J k (by omega) h, drop_get l k hk, jtakes, if_neg (show ¬ (jtake P (jst P l J k) (l.getD k key0)).1 = true by unfold jbk at hf; rw [hf]; simp)]; rfl
theorem jtakes_all (P : Pm) (l : List Key) (J : JS) (h : ∀ j, j < l.length → jbk P l J j = true) : jtakes P l J = (true, jst P l J l.length) := by
  rw [jtakes_drop P l J l.length (Nat.le_refl _) h, List.drop_length]; rfl
theorem jtake_anew (P : Pm) (J : JS) (k : Key) : (jtake P J k).2.anew = J.anew := by
  have hm : ∀ J : JS, (jmake P J k).2.anew = J.anew := fun J => by rw [jmake_jmk]; unfold jmk; split <;> rfl
  unfold jtake
  split
  · rfl
  · split
    · split
      · rfl
      · exact hm _
    · exact hm _
theorem jtake_pin (P : Pm) (J : JS) (k : Key) (h : (jtake P J k).1 = true) : (jtake P J k).2.pinned.length = J.pinned.length + 1 := by
  have hm : ∀ J : JS, (jmake P J k).1 = true → (jmake P J k).2.pinned.length = J.pinned.length + 1 := fun J => by
    rw [jmake_jmk]; unfold jmk; split
    · intro _; simp
    · intro h; cases h
  unfold jtake at h ⊢
  split
  · simp
  · rename_i hf
    rw [hf] at h
    simp only at h
    split
    · rename_i hl
      rw [if_pos hl] at h
      split
      · rename_i hn; rw [hn] at h; cases h
      · rename_i q hq; rw [hq] at h; exact hm _ h
    · rename_i hl
      rw [if_neg hl] at h
      exact hm _ h
theorem jst_anew (P : Pm) (l : List Key) (J : JS) : ∀ k, (jst P l J k).anew = J.anew
  | 0 => rfl
  | k + 1 => (jtake_anew P _ _).trans (jst_anew P l J k)
theorem jst_pin (P : Pm) (l : List Key) (J : JS) : ∀ k, (∀ j, j < k → jbk P l J j = true) → (jst P l J k).pinned.length = J.pinned.length + k
  | 0, _ => rfl
  | k + 1, h => by
    have h1 := jtake_pin P (jst P l J k) (l.getD k key0) (h k (by omega))
    have h2 := jst_pin P l J k (fun j hj => h j (by omega))
    show (jtake P (jst P l J k) (l.getD k key0)).2.pinned.length = _
    omega
def jlks (P : Pm) (J : JS) (root page : Int) (es : List Pte) : Nat → JS
  | 0 => J
  | k + 1 => jlink P (jlks P J root page es k) root (J.pinned.getD k 0) (ix page (3 - (k : Int))) (J.pinned.getD (k + 1) 0) (eright (es.getD k pte0))
theorem jfill_form (P : Pm) (G : GS) (root page : Int) (p : Path) (written : Bool) (es : List Pte) (d : Bool) (J : Bool × JS) (he : jes P G p.ats = es) (hd : (p.dirty || written) = d) (hJ : jtakes P (jkeys root es p.large d) ⟨G, [], []⟩ = J)
    (hp : p.ats.length = 3 ∨ (p.ats.length = 2 ∧ p.large = true)) : jfill P G root page p written = if J.1 = false then (([], false), J.2.G) else
      (((jleaf P (jlks P J.2 root page es 2) root (J.2.pinned.getD 2 0) (ix page 1) p.g ⟨(jlow es p.large d).2.w && d && !gprot (jlks P J.2 root page es 2).G p.g, (jlow es p.large d).2.u, (jlow es p.large d).2.x⟩).anew, true),
        (jleaf P (jlks P J.2 root page es 2) root (J.2.pinned.getD 2 0) (ix page 1) p.g ⟨(jlow es p.large d).2.w && d && !gprot (jlks P J.2 root page es 2).G p.g, (jlow es p.large d).2.u, (jlow es p.large d).2.x⟩).G) := by
  have hl : es.length = p.ats.length := by rw [← he]; unfold jes; rw [List.length_map]
  unfold jfill
  simp only
  rw [he, hd, hJ, if_neg (by rw [hl]; rcases hp with e | ⟨e, e2⟩ <;> simp [e]; exact e2)]
  split
  · rfl
  · rfl
theorem key_at0 (x0 x1 x2 x3 x4 x5 x6 x7 x8 : Int) (w : World) : (Instr.index 162 (.agg #[.int .i64 x0, .int .i64 x1, .int .i64 x2, .int .i64 x3, .int .i64 x4, .int .i64 x5, .int .i64 x6, .int .i64 x7, .int .i64 x8]) (.int .i64 0)).run Tryz.prog w = .ok (.agg #[.int .i64 x0, .int .i64 x1, .int .i64 x2]) w := by kernel_rfl
theorem key_at1 (x0 x1 x2 x3 x4 x5 x6 x7 x8 : Int) (w : World) : (Instr.index 162 (.agg #[.int .i64 x0, .int .i64 x1, .int .i64 x2, .int .i64 x3, .int .i64 x4, .int .i64 x5, .int .i64 x6, .int .i64 x7, .int .i64 x8]) (.int .i64 1)).run Tryz.prog w = .ok (.agg #[.int .i64 x3, .int .i64 x4, .int .i64 x5]) w := by kernel_rfl
theorem key_at2 (x0 x1 x2 x3 x4 x5 x6 x7 x8 : Int) (w : World) : (Instr.index 162 (.agg #[.int .i64 x0, .int .i64 x1, .int .i64 x2, .int .i64 x3, .int .i64 x4, .int .i64 x5, .int .i64 x6, .int .i64 x7, .int .i64 x8]) (.int .i64 2)).run Tryz.prog w = .ok (.agg #[.int .i64 x6, .int .i64 x7, .int .i64 x8]) w := by kernel_rfl
theorem HG.fbox {w0 w : World} {A : GAd} {P : Pm} {V : GVl} {G : GS} {F : FA} {bs ts : List Thing} (H : HG w0 w A P V G (bs ++ fths F A P ts)) : HG w0 w A P V G (fths F A P (bs ++ ts)) :=
  Hold.perm H (List.Perm.append_left _ (List.perm_append_comm_assoc bs [box F.fl 156 (fcells A F.gp), mapt F.gp F.hb F.mb F.cap P.hosts] ts).symm)
theorem jlay_len (P : Pm) (J : JS) (root p i : Int) (x : Slt) (put : GS → GS) : (jlay P J root p i x put).anew.length ≤ J.anew.length + 200 ∧ (jlay P J root p i x put).pinned = J.pinned := by
  unfold jlay
  split
  · exact ⟨by omega, rfl⟩
  · have h := greach_len (put (gzap (if x.kind = 1 then jready P J.G x.dst else J.G) p i).2).s.ps root p i
    exact ⟨by simp only [List.length_append]; omega, rfl⟩
theorem jlks_len (P : Pm) (J : JS) (root page : Int) (es : List Pte) : ∀ k, (jlks P J root page es k).anew.length ≤ J.anew.length + 200 * k ∧ (jlks P J root page es k).pinned = J.pinned
  | 0 => ⟨Nat.le_refl _, rfl⟩
  | k + 1 => by
    obtain ⟨h1, h2⟩ := jlks_len P J root page es k
    obtain ⟨h3, h4⟩ := jlay_len P (jlks P J root page es k) root (J.pinned.getD k 0) (ix page (3 - (k : Int))) ⟨1, J.pinned.getD (k + 1) 0, eright (es.getD k pte0)⟩ (fun G => { G with s := (schild G.s (J.pinned.getD k 0) (ix page (3 - (k : Int))) (J.pinned.getD (k + 1) 0) (eright (es.getD k pte0))).2 })
    exact ⟨by show (jlay _ _ _ _ _ _ _).anew.length ≤ _; omega, h4.trans h2⟩
theorem len3 {l : List Int} (h : l.length = 3) : ∃ a b c, l = [a, b, c] := by
  match l, h with
  | [a, b, c], _ => exact ⟨a, b, c, rfl⟩
theorem ixn (page l : Int) : ∃ i : Nat, ix page l = (i : Int) ∧ i < 8 := by
  have := ix_in page l
  exact ⟨(ix page l).toNat, by omega, by omega⟩
set_option maxRecDepth 100000 in
set_option maxHeartbeats 16000000 in
theorem fill_j {w0 w : World} {A : GAd} {P : Pm} {V : GVl} {F : FA} {G : GS} {ts : List Thing} (H : HG w0 w A P V G (fths F A P ts)) (root page : Int) (ab c : Nat) (rest0 : List Value) (p : Path) (hs : Blk w ab 78 (atCells p.ats ++ rest0))
    (hp : p.ats.length = 3 ∨ (p.ats.length = 2 ∧ p.large = true)) (written : Bool) :
    Calls Tryz.prog 26 #[.pointer (some ⟨F.fl, 0, none⟩), .int .i64 root, .int .i64 page, .agg #[.slice (some ⟨ab, 0, none⟩) p.ats.length c, .int .i64 p.g, .bool p.r.w, .bool p.r.u, .bool p.r.x, .bool p.large, .bool p.dirty], .bool written] w
      fun e w' => ∃ v, e = .returned (.tuple #[v, .bool (jfill P G root page p written).1.2]) ∧ ∃ V', HG w0 w' A P V' (jfill P G root page p written).2 (ints v (jfill P G root page p written).1.1 :: fths F A P ts) := by
  obtain ⟨es, hes⟩ : ∃ x, jes P G p.ats = x := ⟨_, rfl⟩
  obtain ⟨d, hd⟩ : ∃ x, (p.dirty || written) = x := ⟨_, rfl⟩
  obtain ⟨JT, hJT⟩ : ∃ x, jtakes P (jkeys root es p.large d) ⟨G, [], []⟩ = x := ⟨_, rfl⟩
  have hjf := jfill_form P G root page p written es d JT hes hd hJT hp
  obtain ⟨R, hR⟩ : ∃ x, jfill P G root page p written = x := ⟨_, rfl⟩
  rw [hR] at hjf ⊢
  clear hR
  obtain ⟨ats, pg, ⟨prw, pru, prx⟩, pl, pd⟩ := p
  dsimp only at hs hp hes hd hJT hjf ⊢
  have hen : es.length = ats.length := by rw [← hes]; unfold jes; rw [List.length_map]
  have hek : ∀ k, k < ats.length → es.getD k pte0 = pte ((rd P.hosts G.s.mem (ats.getD k (0, 0)).1 (ats.getD k (0, 0)).2).getD 0) := fun k hk => by
    rw [← hes]; unfold jes
    rw [List.getD, List.getElem?_map, List.getElem?_eq_getElem hk, List.getD, List.getElem?_eq_getElem hk]; rfl
  obtain ⟨n, hn⟩ : ∃ x, ats.length = x := ⟨_, rfl⟩
  rw [hn] at hp hen hek ⊢
  have n2 : 2 ≤ n := by rcases hp with e | e <;> omega
  have n3 : pl = false → 3 ≤ n := fun h => by rcases hp with e | ⟨_, e⟩; omega; rw [h] at e; cases e
  have n4 : n ≤ 3 := by rcases hp with e | e <;> omega
  have b0 := bal w (.cells #[.slice (some ⟨ab, 0, none⟩) n c, .int .i64 pg, .bool prw, .bool pru, .bool prx, .bool pl, .bool pd] 71)
  have kq := Blk.new w 71 [.slice (some ⟨ab, 0, none⟩) n c, .int .i64 pg, .bool prw, .bool pru, .bool prx, .bool pl, .bool pd]
  have H1 := H.add b0 (box w.heap.size 71 [.slice (some ⟨ab, 0, none⟩) n c, .int .i64 pg, .bool prw, .bool pru, .bool prx, .bool pl, .bool pd]) kq (fun b e => Nat.le_of_eq e.symm)
  obtain ⟨pb, hpb⟩ : ∃ x, w.heap.size = x := ⟨_, rfl⟩
  obtain ⟨w1, hw1⟩ : ∃ W', w.alloc (.cells #[.slice (some ⟨ab, 0, none⟩) n c, .int .i64 pg, .bool prw, .bool pru, .bool prx, .bool pl, .bool pd] 71) = W' := ⟨_, rfl⟩
  rw [hpb] at H1
  rw [hw1] at H1 b0
  have H1' : HG w0 w1 A P V G (fths F A P (box pb 71 [.slice (some ⟨ab, 0, none⟩) n c, .int .i64 pg, .bool prw, .bool pru, .bool prx, .bool pl, .bool pd] :: ts)) := HG.fbox (bs := [box pb 71 [.slice (some ⟨ab, 0, none⟩) n c, .int .i64 pg, .bool prw, .bool pru, .bool prx, .bool pl, .bool pd]]) H1
  have hs1 := hs.past b0
  have q0 := (show Blk w1 pb 71 [.slice (some ⟨ab, 0, none⟩) n c, .int .i64 pg, .bool prw, .bool pru, .bool prx, .bool pl, .bool pd] from Hold.at H1' 7 rfl).cell (k := 0) rfl
  have ql := (show Blk w1 pb 71 [.slice (some ⟨ab, 0, none⟩) n c, .int .i64 pg, .bool prw, .bool pru, .bool prx, .bool pl, .bool pd] from Hold.at H1' 7 rfl).lt
  obtain ⟨i0, hi, hz0, hz1, hz2⟩ := info_parts info_pte
  have HI := Lib.hid hi
  have HZ0 := Lib.hid hz0
  have HZ1 := Lib.hid hz1
  have HZ2 := Lib.hid hz2
  have HW1 := Lib.hid hw1
  have HPb := Lib.hid hpb
  have HH1 := Lib.hid H1'
  have HS1 := Lib.hid hs1
  have HN := Lib.hid hn
  have HEn := Lib.hid hen
  have HEk := Lib.hid hek
  have HD := Lib.hid hd
  have HJT := Lib.hid hJT
  have HRr := Lib.hid hjf
  have N3 := Lib.hid n3
  have HP := Lib.hid hp
  clear hi hz0 hz1 hz2 hw1 hpb H1 H1' H hs hs1 hn hen hek hd hJT hjf hes b0 kq n3 hp
  go_enter Tryz.func26, Tryz.ntmps26
  go_upto_region 2 with (fail)
  rw [HW1.out, HPb.out]
  go_wp2_with fail
  go_loopw [12, 14, 15, 16, 27] (fun v _ _ _ i wr => ∃ k : Nat, k ≤ n ∧ i = .int .i64 k ∧ wr.ownsRow w1.heap.size 134 9 v k ((es.take k).flatMap peC) ∧ Below w1.heap.size w1 wr) (fun _ _ _ _ i _ => n - (intOf i).toNat)
  case atStart => exact ⟨0, by omega, rfl, World.ownsRow_nil _ _ _ _, Below.refl _ _⟩
  case round =>
    obtain ⟨k, hk, rfl, hown, hB⟩ := hrel
    by_cases hkn : k < n
    · have hkL : k < ats.length := by rw [HN.out]; exact hkn
      have h3 := HH1.out.past hB
      obtain ⟨c0, c1⟩ := Sl.at (HS1.out.past hB) k hkL
      have lab := (HS1.out.past hB).lt
      have hek := HEk.out k hkn
      obtain ⟨⟨ag, ai⟩, hai⟩ : ∃ x, ats.getD k (0, 0) = x := ⟨_, rfl⟩
      rw [hai] at c0 c1 hek
      dsimp only at c0 c1 hek
      have hvl := rd_lt (hosts := P.hosts) h3.host.bd ag ai
      have hge := fun W (hW : Below wr.heap.size wr W) => get_any W A.p A.gp A.hb A.mb A.fp A.fb P.hosts G.s.mem A.cap P.n ag ai (h3.past hW).host (h3.past hW).guest
      obtain ⟨vs, hvs⟩ : ∃ x, (rd P.hosts G.s.mem ag ai).isSome = x := ⟨_, rfl⟩
      obtain ⟨v, hv⟩ : ∃ x, (rd P.hosts G.s.mem ag ai).getD 0 = x := ⟨_, rfl⟩
      rw [hv] at hvl hge hek
      rw [hvs] at hge
      have hpg := fun W => pget_any W v hvl
      obtain ⟨⟨ep, ew, eu, ea, ed, es', enx, eb', ef⟩, he⟩ : ∃ x, pte v = x := ⟨_, rfl⟩
      rw [he] at hpg hek
      dsimp only [Pte.val] at hpg
      have hnext : (es.take (k + 1)).flatMap peC = (es.take k).flatMap peC ++ [.bool ep, .bool ew, .bool eu, .bool ea, .bool ed, .bool es', .bool enx, .bool eb', .int .i64 (ef : Int)] := by
        have hlt : k < es.length := by rw [HEn.out]; omega
        rw [List.take_add_one, List.getElem?_eq_getElem hlt, List.flatMap_append]
        rw [List.getD, List.getElem?_eq_getElem hlt] at hek
        have e1 : es[k] = (⟨ep, ew, eu, ea, ed, es', enx, eb', ef⟩ : Pte) := hek
        rw [e1]; rfl
      have f0 := (show Blk wr F.fl 156 (fcells A F.gp) from Hold.at h3 5 rfl).cell (k := 0) rfl
      have fl := (show Blk wr F.fl 156 (fcells A F.gp) from Hold.at h3 5 rfl).lt
      have HGe := Lib.hid hge
      have HPg := Lib.hid hpg
      have HNx := Lib.hid hnext
      have HO := Lib.hid hown
      have HBw := Lib.hid hB
      have HF := Lib.hid (show Blk wr F.fl 156 (fcells A F.gp) from Hold.at h3 5 rfl)
      clear hge hpg hnext hown hB h3 hek hvl hvs hv he hai hkL
      go_upto_region 5 with (fail)
      have b4 := bal wr (.cells #[.int .i64 ag, .int .i64 ai] 78)
      have k4 := Blk.new wr 78 [.int .i64 ag, .int .i64 ai]
      obtain ⟨kb, hkb⟩ : ∃ x, wr.heap.size = x := ⟨_, rfl⟩
      obtain ⟨W4, hW4⟩ : ∃ W', wr.alloc (.cells #[.int .i64 ag, .int .i64 ai] 78) = W' := ⟨_, rfl⟩
      rw [show (wr.alloc (.cells ([.int .i64 ag, .int .i64 ai] : List Value).toArray 78)) = W4 from hW4, hkb] at k4
      rw [hW4] at b4
      rw [hW4, hkb]
      clear hW4 hkb c0 c1 f0 fl
      have g0 := k4.cell (k := 0) rfl
      have g1 := k4.cell (k := 1) rfl
      have gl := k4.lt
      have f0 := (HF.out.past b4).cell (k := 0) rfl
      have fl := (HF.out.past b4).lt
      have HB4 := Lib.hid b4
      clear k4 b4
      go_region_held3 (fun w' => w'.cell? ⟨F.fl, 0, none⟩ = some (.pointer (some ⟨A.p, 0, none⟩)) ∧ w'.cell? ⟨kb, 0, none⟩ = some (.int .i64 ag) ∧ w'.cell? ⟨kb, 1, none⟩ = some (.int .i64 ai)) (go_keep) (first
        | (go_at_call 74; (with_reducible refine (HGe.out _ HB4.out.drew).mono ?_); rintro e W5 ⟨rfl, rfl⟩))
      clear g0 g1 gl f0 fl
      go_wp2_with (first
        | (go_at_call 62; (with_reducible refine (HPg.out _).mono ?_); rintro e W6 ⟨rfl, b6⟩; have B6 := HB4.out.drew.trans (b6.mono HB4.out.size); have B7 := B6.trans ((bal W6 (.cells #[.bool ep, .bool ew, .bool eu, .bool ea, .bool ed, .bool es', .bool enx, .bool eb', .int .i64 (ef : Int)] 134)).mono B6.size); have hrow := nrow_past HO.out B7; have HRw := Lib.hid hrow; have HB7 := Lib.hid B7; have hsz7 := Nat.le_trans HBw.out.size B7.size; clear hrow B6 B7 b6)
        | (at_builtin; refine wpList_append_own _ rfl _ _ 154 rfl w1.heap.size 134 i0 _ 9 16 Tryz.underlying154 HI.out HZ0.out HZ1.out HZ2.out rfl (by decide) _ _ _ rfl HRw.out ⟨W6.heap.size, 0, none⟩ 1 1 [.bool ep, .bool ew, .bool eu, .bool ea, .bool ed, .bool es', .bool enx, .bool eb', .int .i64 (ef : Int)] rfl rfl (World.news_of_block (Blk.new W6 134 [.bool ep, .bool ew, .bool eu, .bool ea, .bool ed, .bool es', .bool enx, .bool eb', .int .i64 (ef : Int)])) (fun x hx => by simp only [List.mem_cons, List.not_mem_nil, or_false] at hx; rcases hx with rfl | rfl | rfl | rfl | rfl | rfl | rfl | rfl | rfl <;> rfl) (by unfold maxLen; omega) (by omega) hsz7 ?_; intro v' w3 hown' hgrow3 hnil3; have HO3 := Lib.hid hown'; have HG3 := Lib.hid hgrow3; clear hown' hgrow3 hnil3))
      go_roundw
      case rel =>
        refine ⟨k + 1, by omega, by simp, by rw [HNx.out]; exact HO3.out, (HBw.out.trans (HB7.out.mono HBw.out.size)).grown HG3.out hsz7 (fun r e => (HRw.out.lt r e).1)⟩
      case measure => simp [intOf]; omega
    · obtain rfl : n = k := by omega
      rw [show es.take n = es from List.take_of_length_le (by rw [HEn.out]; exact Nat.le_refl _)] at hown
      obtain ⟨eb, ecap, rest, rfl, hEb, hge⟩ := pe_row hown (HEn.out) (by omega)
      have h4 : HG w0 wr A P V G (fths F A P (box eb 134 (es.flatMap peC ++ rest) :: box pb 71 [.slice (some ⟨ab, 0, none⟩) n c, .int .i64 pg, .bool prw, .bool pru, .bool prx, .bool pl, .bool pd] :: ts)) := HG.fbox (bs := [box eb 134 (es.flatMap peC ++ rest)]) (HH1.out.add hB (box eb 134 (es.flatMap peC ++ rest)) hEb (fun b e => by rw [show b = eb from e]; exact hge))
      have HH4 := Lib.hid h4
      clear hown hEb hge hB h4 HH1 HS1 HEk q0 ql hkn hk HW1 HPb HI HZ0 HZ1 HZ2
      have q5 := (show Blk wr pb 71 [.slice (some ⟨ab, 0, none⟩) n c, .int .i64 pg, .bool prw, .bool pru, .bool prx, .bool pl, .bool pd] from Hold.at HH4.out 8 rfl).cell (k := 5) rfl
      have q6 := (show Blk wr pb 71 [.slice (some ⟨ab, 0, none⟩) n c, .int .i64 pg, .bool prw, .bool pru, .bool prx, .bool pl, .bool pd] from Hold.at HH4.out 8 rfl).cell (k := 6) rfl
      have ql := (show Blk wr pb 71 [.slice (some ⟨ab, 0, none⟩) n c, .int .i64 pg, .bool prw, .bool pru, .bool prx, .bool pl, .bool pd] from Hold.at HH4.out 8 rfl).lt
      go_upto_region 8 with (fail)
      go_cut [61] from 49 (fun s wx => s = .bool false ∧ wx = wr)
      case first =>
        have fn2 : decide ((n : Int) < 2) = false := decide_eq_false (by omega)
        by_cases h3 : 3 ≤ n
        · have fn3 : decide ((n : Int) < 3) = false := decide_eq_false (by omega)
          go_wp2_with fail
          go_meet
          exact ⟨rfl, rfl⟩
        · obtain rfl : pl = true := by
            cases pl
            · exact absurd (N3.out rfl) h3
            · rfl
          have fn3 : decide ((n : Int) < 3) = true := decide_eq_true (by omega)
          go_wp2_with fail
          go_meet
          exact ⟨rfl, rfl⟩
      case rest =>
        obtain ⟨rfl, rfl⟩ := hcut
        go_upto_region 10 with (fail)
        go_cut [17] from 49 (fun s wx => s = .bool d ∧ wx = wc)
        case first =>
          have hd := HD.out
          cases pd
          · obtain rfl : written = d := hd
            clear HD
            go_wp2_with fail
            go_meet
            exact ⟨rfl, rfl⟩
          · obtain rfl : d = true := hd.symm
            clear HD
            go_wp2_with fail
            go_meet
            exact ⟨rfl, rfl⟩
        case rest =>
          obtain ⟨rfl, rfl⟩ := hcut
          have hlo := fun W (hW : Below wc.heap.size wc W) => low_any W eb n ecap es rest ((show Blk wc eb 134 (es.flatMap peC ++ rest) from Hold.at HH4.out 7 rfl).past hW) HEn.out n2 pl d N3.out
          obtain ⟨JL, hJL⟩ : ∃ x, jlow es pl d = x := ⟨_, rfl⟩
          have hR := HRr.out
          have hT := HJT.out
          have hks : jkeys root es pl d = [⟨root, 3, 0⟩, ⟨((es.getD 0 pte0).f : Int), 2, 0⟩, (jlow es pl d).1] := rfl
          rw [hks] at hT
          rw [hJL] at hlo hR hT
          obtain ⟨⟨lg, lv, lr⟩, ⟨mw, mu, mx⟩⟩ := JL
          dsimp only at hlo hR hT
          obtain ⟨f0, hf0⟩ : ∃ x, ((es.getD 0 pte0).f : Int) = x := ⟨_, rfl⟩
          rw [hf0] at hT
          have HLo := Lib.hid hlo
          have HRr := Lib.hid hR
          have HJT := Lib.hid hT
          have HF0 := Lib.hid hf0
          clear hlo hR hT hks hf0 hJL HD
          have q5 := (show Blk wc pb 71 [.slice (some ⟨ab, 0, none⟩) n c, .int .i64 pg, .bool prw, .bool pru, .bool prx, .bool pl, .bool pd] from Hold.at HH4.out 8 rfl).cell (k := 5) rfl
          have ql := (show Blk wc pb 71 [.slice (some ⟨ab, 0, none⟩) n c, .int .i64 pg, .bool prw, .bool pru, .bool prx, .bool pl, .bool pd] from Hold.at HH4.out 8 rfl).lt
          go_upto_region 13 with (first
            | (go_at_call 75; (with_reducible refine (HLo.out _ (Below.refl _ _)).mono ?_); rintro e W9 ⟨rfl, b9⟩))
          have h9 := HH4.out.past b9
          obtain ⟨kb, hkb⟩ : ∃ x, W9.heap.size = x := ⟨_, rfl⟩
          have bA := bal W9 (.cells #[.int .i64 lg, .int .i64 lv, .int .i64 lr] 54)
          have kA := Blk.new W9 54 [.int .i64 lg, .int .i64 lv, .int .i64 lr]
          have sA : (W9.alloc (.cells #[.int .i64 lg, .int .i64 lv, .int .i64 lr] 54)).heap.size = W9.heap.size + 1 := by simp
          obtain ⟨WA, hWA⟩ : ∃ W', W9.alloc (.cells #[.int .i64 lg, .int .i64 lv, .int .i64 lr] 54) = W' := ⟨_, rfl⟩
          rw [show (W9.alloc (.cells ([.int .i64 lg, .int .i64 lv, .int .i64 lr] : List Value).toArray 54)) = WA from hWA, hkb] at kA
          rw [hWA] at bA
          rw [hWA, hkb] at sA
          have hA : HG w0 WA A P V G (box kb 54 [.int .i64 lg, .int .i64 lv, .int .i64 lr] :: fths F A P (box eb 134 (es.flatMap peC ++ rest) :: box pb 71 [.slice (some ⟨ab, 0, none⟩) n c, .int .i64 pg, .bool prw, .bool pru, .bool prx, .bool pl, .bool pd] :: ts)) := HG.add h9 bA (box kb 54 [.int .i64 lg, .int .i64 lv, .int .i64 lr]) kA (fun b e => by rw [show b = kb from e, hkb]; exact Nat.le_refl _)
          have bC := bal WA (.cells #[.bool mw, .bool mu, .bool mx] 48)
          have kC := Blk.new WA 48 [.bool mw, .bool mu, .bool mx]
          have sC : (WA.alloc (.cells #[.bool mw, .bool mu, .bool mx] 48)).heap.size = WA.heap.size + 1 := by simp
          obtain ⟨WC, hWC⟩ : ∃ W', WA.alloc (.cells #[.bool mw, .bool mu, .bool mx] 48) = W' := ⟨_, rfl⟩
          rw [show (WA.alloc (.cells ([.bool mw, .bool mu, .bool mx] : List Value).toArray 48)) = WC from hWC, sA] at kC
          rw [hWC] at bC
          rw [hWC, sA] at sC
          have hC : HG w0 WC A P V G (box (kb + 1) 48 [.bool mw, .bool mu, .bool mx] :: box kb 54 [.int .i64 lg, .int .i64 lv, .int .i64 lr] :: fths F A P (box eb 134 (es.flatMap peC ++ rest) :: box pb 71 [.slice (some ⟨ab, 0, none⟩) n c, .int .i64 pg, .bool prw, .bool pru, .bool prx, .bool pl, .bool pd] :: ts)) := HG.add hA bC (box (kb + 1) 48 [.bool mw, .bool mu, .bool mx]) kC (fun b e => by rw [show b = kb + 1 from e, sA]; exact Nat.le_refl _)
          have hC1 : HG w0 WC A P V G (fths F A P (box (kb + 1) 48 [.bool mw, .bool mu, .bool mx] :: box kb 54 [.int .i64 lg, .int .i64 lv, .int .i64 lr] :: box eb 134 (es.flatMap peC ++ rest) :: box pb 71 [.slice (some ⟨ab, 0, none⟩) n c, .int .i64 pg, .bool prw, .bool pru, .bool prx, .bool pl, .bool pd] :: ts)) := HG.fbox (bs := [box (kb + 1) 48 [.bool mw, .bool mu, .bool mx], box kb 54 [.int .i64 lg, .int .i64 lv, .int .i64 lr]]) hC
          have hC2 := (hC1.add (Below.refl _ _) (ints (.slice none 0 0) []) (RowI.nil _) (fun b h => by simp [ints, Value.ownBlock] at h)).add (Below.refl _ _) (ints (.slice none 0 0) []) (RowI.nil _) (fun b h => by simp [ints, Value.ownBlock] at h)
          have bE := bal WC (.cells #[.pointer (some ⟨F.fl, 0, none⟩), .int .i64 root, .slice none 0 0, .slice none 0 0] 161)
          have kE := Blk.new WC 161 [.pointer (some ⟨F.fl, 0, none⟩), .int .i64 root, .slice none 0 0, .slice none 0 0]
          obtain ⟨jb, hjb⟩ : ∃ x, WC.heap.size = x := ⟨_, rfl⟩
          obtain ⟨WE, hWE⟩ : ∃ W', WC.alloc (.cells #[.pointer (some ⟨F.fl, 0, none⟩), .int .i64 root, .slice none 0 0, .slice none 0 0] 161) = W' := ⟨_, rfl⟩
          rw [show (WC.alloc (.cells ([.pointer (some ⟨F.fl, 0, none⟩), .int .i64 root, .slice none 0 0, .slice none 0 0] : List Value).toArray 161)) = WE from hWE, hjb] at kE
          rw [hWE] at bE
          have hE : JG w0 WE A P V F jb root (.slice none 0 0) (.slice none 0 0) ⟨G, [], []⟩ ([box (kb + 1) 48 [.bool mw, .bool mu, .bool mx], box kb 54 [.int .i64 lg, .int .i64 lv, .int .i64 lr], box eb 134 (es.flatMap peC ++ rest), box pb 71 [.slice (some ⟨ab, 0, none⟩) n c, .int .i64 pg, .bool prw, .bool pru, .bool prx, .bool pl, .bool pd]] ++ ts) := HG.add hC2 bE (box jb 161 (jcells F root (.slice none 0 0) (.slice none 0 0))) kE (fun b e => by rw [show b = jb from e, hjb]; exact Nat.le_refl _)
          rw [hWA, hWC, hWE, hkb, show kb + 1 + 1 = jb by omega]
          have HE := Lib.hid hE
          clear h9 hkb bA kA sA hWA hA bC kC sC hWC hC hC1 hC2 bE kE hjb hWE hE b9 q5 ql HLo HH4
          have hE := HE.out
          have e8 : WE.cell? ⟨eb, 8, none⟩ = some (.int .i64 f0) := by
            obtain ⟨_, _, _, _, _, _, _, _, h⟩ := pe_cells (show Blk WE eb 134 (es.flatMap peC ++ rest) from Hold.at hE 12 rfl) 0 (by rw [HEn.out]; omega) rfl
            rw [HF0.out] at h
            exact h
          have el := (show Blk WE eb 134 (es.flatMap peC ++ rest) from Hold.at hE 12 rfl).lt
          have k0 := (show Blk WE kb 54 [.int .i64 lg, .int .i64 lv, .int .i64 lr] from Hold.at hE 11 rfl).cell (k := 0) rfl
          have k1 := (show Blk WE kb 54 [.int .i64 lg, .int .i64 lv, .int .i64 lr] from Hold.at hE 11 rfl).cell (k := 1) rfl
          have k2 := (show Blk WE kb 54 [.int .i64 lg, .int .i64 lv, .int .i64 lr] from Hold.at hE 11 rfl).cell (k := 2) rfl
          have kl := (show Blk WE kb 54 [.int .i64 lg, .int .i64 lv, .int .i64 lr] from Hold.at hE 11 rfl).lt
          have hi0 : (0 : Int) < (n : Int) := by omega
          clear hE
          go_quiet (fail)
          go_wp2_with fail
          obtain ⟨ks, hks⟩ : ∃ x, ([⟨root, 3, 0⟩, ⟨f0, 2, 0⟩, ⟨lg, lv, lr⟩] : List Key) = x := ⟨_, rfl⟩
          have hkl : ks.length = 3 := by rw [← hks]; rfl
          have hix : ∀ k : Nat, k < 3 → ∀ W, (Instr.index 162 (.agg #[.int .i64 root, .int .i64 3, .int .i64 0, .int .i64 f0, .int .i64 2, .int .i64 0, .int .i64 lg, .int .i64 lv, .int .i64 lr]) (.int .i64 (k : Int))).run Tryz.prog W = .ok (.agg #[.int .i64 (ks.getD k key0).g, .int .i64 (ks.getD k key0).lv, .int .i64 (ks.getD k key0).ro]) W := by
            intro k hk W
            rw [← hks]
            match k, hk with
            | 0, _ => exact key_at0 _ _ _ _ _ _ _ _ _ W
            | 1, _ => exact key_at1 _ _ _ _ _ _ _ _ _ W
            | 2, _ => exact key_at2 _ _ _ _ _ _ _ _ _ W
          have hT := HJT.out
          rw [hks] at hT
          have HJT := Lib.hid hT
          have HIx := Lib.hid hix
          have HKl := Lib.hid hkl
          clear hix hkl hks hT e8 el k0 k1 k2 kl hi0
          obtain ⟨J0, hJ0⟩ : ∃ x, (⟨G, [], []⟩ : JS) = x := ⟨_, rfl⟩
          have hE : JG w0 WE A P V F jb root (.slice none 0 0) (.slice none 0 0) J0 ([box (kb + 1) 48 [.bool mw, .bool mu, .bool mx], box kb 54 [.int .i64 lg, .int .i64 lv, .int .i64 lr], box eb 134 (es.flatMap peC ++ rest), box pb 71 [.slice (some ⟨ab, 0, none⟩) n c, .int .i64 pg, .bool prw, .bool pru, .bool prx, .bool pl, .bool pd]] ++ ts) := hJ0 ▸ HE.out
          have hT := HJT.out
          rw [hJ0] at hT
          have HJT := Lib.hid hT
          have hp0 : J0.pinned.length = 0 := by rw [← hJ0]; rfl
          have ha0 : J0.anew = [] := by rw [← hJ0]
          have HE := Lib.hid hE
          have HP0 := Lib.hid hp0
          have HA0 := Lib.hid ha0
          clear hE hT hJ0 hp0 ha0
          go_loopw [22, 88] (fun _ i wr => ∃ k : Nat, k ≤ 3 ∧ i = .int .i64 k ∧ (∀ j, j < k → jbk P ks J0 j = true) ∧ ∃ V' pv', JG w0 wr A P V' F jb root pv' (.slice none 0 0) (jst P ks J0 k) ([box (kb + 1) 48 [.bool mw, .bool mu, .bool mx], box kb 54 [.int .i64 lg, .int .i64 lv, .int .i64 lr], box eb 134 (es.flatMap peC ++ rest), box pb 71 [.slice (some ⟨ab, 0, none⟩) n c, .int .i64 pg, .bool prw, .bool pru, .bool prx, .bool pl, .bool pd]] ++ ts)) (fun _ i _ => 3 - (intOf i).toNat)
          case atStart => first | exact ⟨0, by omega, rfl, fun j hj => absurd hj (Nat.not_lt_zero j), V, _, HE.out.past (below_of_drewN _ _)⟩ | exact ⟨0, by omega, rfl, fun j hj => absurd hj (Nat.not_lt_zero j), V, _, HE.out.past (Below.refl _ _).drew⟩
          case round =>
            obtain ⟨k, hk, rfl, hok, V3, pv3, H3⟩ := hrel
            clear HE
            by_cases hk3 : k < 3
            · have hkz : (k : Int) < 3 := by omega
              have hix := HIx.out k hk3
              obtain ⟨⟨kg, kv, kr⟩, hkk⟩ : ∃ x, ks.getD k key0 = x := ⟨_, rfl⟩
              rw [hkk] at hix
              dsimp only at hix
              have hpn := jst_pin P ks J0 k hok
              have htk := fun W (hW : Below wr.heap.size wr W) => take_j (H3.past hW) kg kv kr (by have := HP0.out; omega) (by have := (HG.inv H3.hg).le; unfold sall; rw [List.length_map]; omega)
              have hb : jbk P ks J0 k = (jtake P (jst P ks J0 k) ⟨kg, kv, kr⟩).1 := by unfold jbk; rw [hkk]
              have hn1 : jst P ks J0 (k + 1) = (jtake P (jst P ks J0 k) ⟨kg, kv, kr⟩).2 := by show (jtake P (jst P ks J0 k) (ks.getD k key0)).2 = _; rw [hkk]
              rw [← hb, ← hn1] at htk
              obtain ⟨bt, hbt⟩ : ∃ x, jbk P ks J0 k = x := ⟨_, rfl⟩
              rw [hbt] at htk
              have HTk := Lib.hid htk
              have HOk := Lib.hid hok
              have HBt := Lib.hid hbt
              clear htk hb hn1 hbt H3 hkk hpn hok
              cases bt with
              | true =>
                go_wp2_with (first
                  | (go_at_call 76; (with_reducible refine (HTk.out _ (bal wr _)).mono ?_); rintro e W4 ⟨rfl, V4, pv4, h4⟩; have HH4 := Lib.hid h4; clear h4))
                go_roundw
                case rel => exact ⟨k + 1, by omega, by simp, fun j hj => by rcases Nat.lt_succ_iff_lt_or_eq.1 hj with h | h; exact HOk.out j h; subst h; exact HBt.out, V4, pv4, HH4.out⟩
                case measure => simp [intOf]; omega
              | false =>
                have hst := jtakes_stop P ks J0 k (by rw [HKl.out]; exact hk3) HOk.out HBt.out
                have hR := HRr.out
                rw [HJT.out.symm.trans hst] at hR
                dsimp only at hR
                rw [if_pos rfl] at hR
                subst hR
                have han : (jst P ks J0 (k + 1)).anew = [] := (jst_anew P ks J0 (k + 1)).trans HA0.out
                have HAn := Lib.hid han
                clear hst HJT HRr han
                go_wp2_with (first
                  | (go_at_call 76; (with_reducible refine (HTk.out _ (bal wr _)).mono ?_); rintro e W4 ⟨rfl, V4, pv4, h4⟩; have HH4 := Lib.hid h4; clear h4))
                go_ret2
                have h5 : HG w0 W4 A P V4 (jst P ks J0 (k + 1)).G (ints (.slice none 0 0) (jst P ks J0 (k + 1)).anew :: fths F A P ts) := (HG.tail (HG.tail (JG.unbox (bs := [box (kb + 1) 48 [.bool mw, .bool mu, .bool mx], box kb 54 [.int .i64 lg, .int .i64 lv, .int .i64 lr], box eb 134 (es.flatMap peC ++ rest), box pb 71 [.slice (some ⟨ab, 0, none⟩) n c, .int .i64 pg, .bool prw, .bool pru, .bool prx, .bool pl, .bool pd]]) HH4.out)))
                rw [HAn.out] at h5
                exact ⟨_, rfl, V4, h5⟩
            · obtain rfl : k = 3 := by omega
              have hall := jtakes_all P ks J0 (by rw [HKl.out]; exact hok)
              rw [HKl.out] at hall
              have hR := HRr.out
              rw [HJT.out.symm.trans hall] at hR
              dsimp only at hR
              rw [if_neg (by simp)] at hR
              have hpl := jst_pin P ks J0 3 hok
              have han := (jst_anew P ks J0 3).trans HA0.out
              obtain ⟨J, hJ⟩ : ∃ x, jst P ks J0 3 = x := ⟨_, rfl⟩
              rw [hJ] at hR hpl H3 han
              rw [HP0.out] at hpl
              obtain ⟨a0, a1, a2, hpin⟩ := len3 hpl
              obtain ⟨sb, sc, rfl, _, _⟩ := RowI.at H3.pin 0 (by rw [hpl]; decide)
              rw [hpl] at H3
              subst hR
              have hpn : ∀ k, (jlks P J root page es k).pinned = [a0, a1, a2] := fun k => (jlks_len P J root page es k).2.trans hpin
              have HPn := Lib.hid hpn
              have HPin := Lib.hid hpin
              have han' : J.anew.length = 0 := by rw [han]; rfl
              have HAn := Lib.hid han'
              have HH3 := Lib.hid H3
              clear hall hpl han hJ hpin hpn han' H3 HRr HJT HIx HKl HP0 HA0 hok hk3 hk
              go_wp2_with fail
              go_loopw [23, 96] (fun _ i wr => ∃ k : Nat, k ≤ 2 ∧ i = .int .i64 k ∧ ∃ V' av', JG w0 wr A P V' F jb root (.slice (some ⟨sb, 0, none⟩) 3 sc) av' (jlks P J root page es k) ([box (kb + 1) 48 [.bool mw, .bool mu, .bool mx], box kb 54 [.int .i64 lg, .int .i64 lv, .int .i64 lr], box eb 134 (es.flatMap peC ++ rest), box pb 71 [.slice (some ⟨ab, 0, none⟩) n c, .int .i64 pg, .bool prw, .bool pru, .bool prx, .bool pl, .bool pd]] ++ ts)) (fun _ i _ => 2 - (intOf i).toNat)
              case atStart => exact ⟨0, by omega, rfl, V3, _, HH3.out⟩
              case round =>
                obtain ⟨k, hk, rfl, V5, av5, H5⟩ := hrel
                clear HH3
                by_cases hk2 : k < 2
                · rcases (show k = 0 ∨ k = 1 by omega) with rfl | rfl
                  · clear hk2 hk
                    obtain ⟨⟨ep, ew, eu, ea, ed, es', enx, eb', ef⟩, he⟩ : ∃ x, es.getD 0 pte0 = x := ⟨_, rfl⟩
                    have hE9 : ∀ W, Blk W eb 134 (es.flatMap peC ++ rest) → (W.cell? ⟨eb, 0, none⟩ = some (.bool ep) ∧ W.cell? ⟨eb, 1, none⟩ = some (.bool ew) ∧ W.cell? ⟨eb, 2, none⟩ = some (.bool eu) ∧ W.cell? ⟨eb, 3, none⟩ = some (.bool ea) ∧ W.cell? ⟨eb, 4, none⟩ = some (.bool ed) ∧ W.cell? ⟨eb, 5, none⟩ = some (.bool es') ∧ W.cell? ⟨eb, 6, none⟩ = some (.bool enx) ∧ W.cell? ⟨eb, 7, none⟩ = some (.bool eb') ∧ W.cell? ⟨eb, 8, none⟩ = some (.int .i64 (ef : Int))) := fun W h => pe_cells h 0 (by rw [HEn.out]; omega) he
                    have hof := fun W => of_any W ⟨ep, ew, eu, ea, ed, es', enx, eb', ef⟩
                    dsimp only [Pte.val, rtOf, Rt.val] at hof
                    obtain ⟨ix, hi, hi8⟩ := ixn page 3
                    have hid := fun W => idx_any page 3 W
                    simp only [hi] at hid
                    have hln := jlks_len P J root page es 0
                    have hlk := fun W (hW : Below wr.heap.size wr W) => link_j (H5.past hW) a0 ix hi8 a1 ew eu (!enx) (by have := hln.1; have := HAn.out; omega)
                    have hnx : jlks P J root page es (0 + 1) = jlink P (jlks P J root page es 0) root a0 (ix : Int) a1 ⟨ew, eu, !enx⟩ := by
                      show jlink P (jlks P J root page es 0) root (J.pinned.getD 0 0) (Go.Proofs.YtglohconhbcchaaGreatDoor.ix page (3 - ((0 : Nat) : Int))) (J.pinned.getD (0 + 1) 0) (eright (es.getD 0 pte0)) = _
                      rw [HPin.out, he, show (3 - ((0 : Nat) : Int)) = 3 from rfl, hi]; rfl
                    rw [← hnx] at hlk
                    have HE9 := Lib.hid hE9
                    have HOf := Lib.hid hof
                    have HId := Lib.hid hid
                    have HLk := Lib.hid hlk
                    have HH5 := Lib.hid H5
                    have j := (show Blk wr jb 161 (jcells F root (.slice (some ⟨sb, 0, none⟩) 3 sc) _) from Hold.at H5 5 rfl).cell (k := 2) rfl
                    have jl := (H5.j).lt
                    have a := ints_at (show RowI wr (.slice (some ⟨sb, 0, none⟩) 3 sc) _ from Hold.at H5 6 rfl) 0 (by rw [HPn.out 0]; simp) (congrArg (fun l : List Int => l.getD 0 0) (HPn.out 0))
                    have b := ints_at (show RowI wr (.slice (some ⟨sb, 0, none⟩) 3 sc) _ from Hold.at H5 6 rfl) 1 (by rw [HPn.out 0]; simp) (congrArg (fun l : List Int => l.getD 1 0) (HPn.out 0))
                    have al := lt_of_cell a
                    obtain ⟨e0, e1, e2, e3, e4, e5, e6, e7, e8⟩ := HE9.out _ (show Blk wr eb 134 (es.flatMap peC ++ rest) from Hold.at H5 12 rfl)
                    have el := lt_of_cell e0
                    clear hE9 hof hid hlk H5 hnx he hln hi
                    have hnK : (0 : Int) < (n : Int) := by omega
                    have hnN : 0 < n := by omega
                    have hwa : IntKind.i64.wrap (3 - (0 : Int)) = 3 := by rfl
                    have hwb : IntKind.i64.wrap ((0 : Int) + 1) = 1 := by rfl
                    have hwc : IntKind.i64.wrap (3 : Int) = 3 := by rfl
                    have hwd : IntKind.i64.wrap (1 : Int) = 1 := by rfl
                    try rw [show (Value.int .i64 ((0 : Nat) : Int)) = .int .i64 0 from rfl]
                    go_wp2_with fail
                    go_region_held3 (fun w' => w'.cell? ⟨jb, 2, none⟩ = some (.slice (some ⟨sb, 0, none⟩) 3 sc) ∧ w'.cell? ⟨sb, 0, none⟩ = some (.int .i64 a0) ∧ w'.cell? ⟨sb, 1, none⟩ = some (.int .i64 a1) ∧ w'.cell? ⟨eb, 0, none⟩ = some (.bool ep) ∧ w'.cell? ⟨eb, 1, none⟩ = some (.bool ew) ∧ w'.cell? ⟨eb, 2, none⟩ = some (.bool eu) ∧ w'.cell? ⟨eb, 3, none⟩ = some (.bool ea) ∧ w'.cell? ⟨eb, 4, none⟩ = some (.bool ed) ∧ w'.cell? ⟨eb, 5, none⟩ = some (.bool es') ∧ w'.cell? ⟨eb, 6, none⟩ = some (.bool enx) ∧ w'.cell? ⟨eb, 7, none⟩ = some (.bool eb') ∧ w'.cell? ⟨eb, 8, none⟩ = some (.int .i64 (ef : Int))) (go_keep) (first
                      | (go_at_call 61; (with_reducible refine (HId.out _).mono ?_); rintro e W2 ⟨rfl, q2, rfl⟩)
                      | (go_at_call 64; (with_reducible refine (HOf.out _).mono ?_); rintro e W3 ⟨rfl, bo⟩; have bq : Below wr.heap.size wr W3 := (by first | exact (below_of_drewN wr _).trans bo | exact ((Below.refl wr.heap.size wr).drew).trans bo); have h3 := HH5.out.past bq; have fj := (show Blk W3 jb 161 (jcells F root (.slice (some ⟨sb, 0, none⟩) 3 sc) _) from Hold.at h3 5 rfl).cell (k := 2) rfl; have fjl := (h3.j).lt; have fa := ints_at (show RowI W3 (.slice (some ⟨sb, 0, none⟩) 3 sc) _ from Hold.at h3 6 rfl) 0 (by rw [HPn.out 0]; simp) (congrArg (fun l : List Int => l.getD 0 0) (HPn.out 0)); have fb := ints_at (show RowI W3 (.slice (some ⟨sb, 0, none⟩) 3 sc) _ from Hold.at h3 6 rfl) 1 (by rw [HPn.out 0]; simp) (congrArg (fun l : List Int => l.getD 1 0) (HPn.out 0)); have fal := lt_of_cell fa; obtain ⟨fe0, fe1, fe2, fe3, fe4, fe5, fe6, fe7, fe8⟩ := HE9.out _ (show Blk W3 eb 134 (es.flatMap peC ++ rest) from Hold.at h3 12 rfl); have fel := lt_of_cell fe0; have HH3 := Lib.hid h3; clear h3)
                      | (go_at_call 77; (first | (with_reducible refine (HLk.out _ bq).mono ?_) | (with_reducible refine (HLk.out _ (bq.trans ((below_of_drewN W3 _).mono bq.size))).mono ?_)); rintro e W4 ⟨⟨r4, rfl⟩, V4, av4, h4⟩; have h4' : JG w0 W4 A P V4 F jb root (.slice (some ⟨sb, 0, none⟩) 3 sc) av4 (jlks P J root page es (0 + 1)) ([box (kb + 1) 48 [.bool mw, .bool mu, .bool mx], box kb 54 [.int .i64 lg, .int .i64 lv, .int .i64 lr], box eb 134 (es.flatMap peC ++ rest), box pb 71 [.slice (some ⟨ab, 0, none⟩) n c, .int .i64 pg, .bool prw, .bool pru, .bool prx, .bool pl, .bool pd]] ++ ts) := h4; have gj := (show Blk W4 jb 161 (jcells F root (.slice (some ⟨sb, 0, none⟩) 3 sc) _) from Hold.at h4' 5 rfl).cell (k := 2) rfl; have gjl := (h4'.j).lt; have ga := ints_at (show RowI W4 (.slice (some ⟨sb, 0, none⟩) 3 sc) _ from Hold.at h4' 6 rfl) 0 (by rw [HPn.out 1]; simp) (congrArg (fun l : List Int => l.getD 0 0) (HPn.out 1)); have gb := ints_at (show RowI W4 (.slice (some ⟨sb, 0, none⟩) 3 sc) _ from Hold.at h4' 6 rfl) 1 (by rw [HPn.out 1]; simp) (congrArg (fun l : List Int => l.getD 1 0) (HPn.out 1)); have gal := lt_of_cell ga; obtain ⟨ge0, ge1, ge2, ge3, ge4, ge5, ge6, ge7, ge8⟩ := HE9.out _ (show Blk W4 eb 134 (es.flatMap peC ++ rest) from Hold.at h4' 12 rfl); have gel := lt_of_cell ge0; have HH4 := Lib.hid h4'; clear h4 h4'))
                    all_goals
                      go_wp2_with fail
                      go_roundw
                      case rel => first | exact ⟨1, by omega, rfl, V4, av4, HH4.out⟩ | ((repeat apply Exists.intro); exact ⟨⟨1, by omega, rfl, V4, av4, HH4.out⟩, rfl⟩)
                      case measure => simp [intOf]
                  · clear hk2 hk
                    obtain ⟨⟨ep, ew, eu, ea, ed, es', enx, eb', ef⟩, he⟩ : ∃ x, es.getD 1 pte0 = x := ⟨_, rfl⟩
                    have hE9 : ∀ W, Blk W eb 134 (es.flatMap peC ++ rest) → (W.cell? ⟨eb, 9, none⟩ = some (.bool ep) ∧ W.cell? ⟨eb, 10, none⟩ = some (.bool ew) ∧ W.cell? ⟨eb, 11, none⟩ = some (.bool eu) ∧ W.cell? ⟨eb, 12, none⟩ = some (.bool ea) ∧ W.cell? ⟨eb, 13, none⟩ = some (.bool ed) ∧ W.cell? ⟨eb, 14, none⟩ = some (.bool es') ∧ W.cell? ⟨eb, 15, none⟩ = some (.bool enx) ∧ W.cell? ⟨eb, 16, none⟩ = some (.bool eb') ∧ W.cell? ⟨eb, 17, none⟩ = some (.int .i64 (ef : Int))) := fun W h => pe_cells h 1 (by rw [HEn.out]; omega) he
                    have hof := fun W => of_any W ⟨ep, ew, eu, ea, ed, es', enx, eb', ef⟩
                    dsimp only [Pte.val, rtOf, Rt.val] at hof
                    obtain ⟨ix, hi, hi8⟩ := ixn page 2
                    have hid := fun W => idx_any page 2 W
                    simp only [hi] at hid
                    have hln := jlks_len P J root page es 1
                    have hlk := fun W (hW : Below wr.heap.size wr W) => link_j (H5.past hW) a1 ix hi8 a2 ew eu (!enx) (by have := hln.1; have := HAn.out; omega)
                    have hnx : jlks P J root page es (1 + 1) = jlink P (jlks P J root page es 1) root a1 (ix : Int) a2 ⟨ew, eu, !enx⟩ := by
                      show jlink P (jlks P J root page es 1) root (J.pinned.getD 1 0) (Go.Proofs.YtglohconhbcchaaGreatDoor.ix page (3 - ((1 : Nat) : Int))) (J.pinned.getD (1 + 1) 0) (eright (es.getD 1 pte0)) = _
                      rw [HPin.out, he, show (3 - ((1 : Nat) : Int)) = 2 from rfl, hi]; rfl
                    rw [← hnx] at hlk
                    have HE9 := Lib.hid hE9
                    have HOf := Lib.hid hof
                    have HId := Lib.hid hid
                    have HLk := Lib.hid hlk
                    have HH5 := Lib.hid H5
                    have j := (show Blk wr jb 161 (jcells F root (.slice (some ⟨sb, 0, none⟩) 3 sc) _) from Hold.at H5 5 rfl).cell (k := 2) rfl
                    have jl := (H5.j).lt
                    have a := ints_at (show RowI wr (.slice (some ⟨sb, 0, none⟩) 3 sc) _ from Hold.at H5 6 rfl) 1 (by rw [HPn.out 1]; simp) (congrArg (fun l : List Int => l.getD 1 0) (HPn.out 1))
                    have b := ints_at (show RowI wr (.slice (some ⟨sb, 0, none⟩) 3 sc) _ from Hold.at H5 6 rfl) 2 (by rw [HPn.out 1]; simp) (congrArg (fun l : List Int => l.getD 2 0) (HPn.out 1))
                    have al := lt_of_cell a
                    obtain ⟨e0, e1, e2, e3, e4, e5, e6, e7, e8⟩ := HE9.out _ (show Blk wr eb 134 (es.flatMap peC ++ rest) from Hold.at H5 12 rfl)
                    have el := lt_of_cell e0
                    clear hE9 hof hid hlk H5 hnx he hln hi
                    have hnK : (1 : Int) < (n : Int) := by omega
                    have hnN : 1 < n := by omega
                    have hwa : IntKind.i64.wrap (3 - (1 : Int)) = 2 := by rfl
                    have hwb : IntKind.i64.wrap ((1 : Int) + 1) = 2 := by rfl
                    have hwc : IntKind.i64.wrap (2 : Int) = 2 := by rfl
                    have hwd : IntKind.i64.wrap (2 : Int) = 2 := by rfl
                    try rw [show (Value.int .i64 ((1 : Nat) : Int)) = .int .i64 1 from rfl]
                    go_wp2_with fail
                    go_region_held3 (fun w' => w'.cell? ⟨jb, 2, none⟩ = some (.slice (some ⟨sb, 0, none⟩) 3 sc) ∧ w'.cell? ⟨sb, 1, none⟩ = some (.int .i64 a1) ∧ w'.cell? ⟨sb, 2, none⟩ = some (.int .i64 a2) ∧ w'.cell? ⟨eb, 9, none⟩ = some (.bool ep) ∧ w'.cell? ⟨eb, 10, none⟩ = some (.bool ew) ∧ w'.cell? ⟨eb, 11, none⟩ = some (.bool eu) ∧ w'.cell? ⟨eb, 12, none⟩ = some (.bool ea) ∧ w'.cell? ⟨eb, 13, none⟩ = some (.bool ed) ∧ w'.cell? ⟨eb, 14, none⟩ = some (.bool es') ∧ w'.cell? ⟨eb, 15, none⟩ = some (.bool enx) ∧ w'.cell? ⟨eb, 16, none⟩ = some (.bool eb') ∧ w'.cell? ⟨eb, 17, none⟩ = some (.int .i64 (ef : Int))) (go_keep) (first
                      | (go_at_call 61; (with_reducible refine (HId.out _).mono ?_); rintro e W2 ⟨rfl, q2, rfl⟩)
                      | (go_at_call 64; (with_reducible refine (HOf.out _).mono ?_); rintro e W3 ⟨rfl, bo⟩; have bq : Below wr.heap.size wr W3 := (by first | exact (below_of_drewN wr _).trans bo | exact ((Below.refl wr.heap.size wr).drew).trans bo); have h3 := HH5.out.past bq; have fj := (show Blk W3 jb 161 (jcells F root (.slice (some ⟨sb, 0, none⟩) 3 sc) _) from Hold.at h3 5 rfl).cell (k := 2) rfl; have fjl := (h3.j).lt; have fa := ints_at (show RowI W3 (.slice (some ⟨sb, 0, none⟩) 3 sc) _ from Hold.at h3 6 rfl) 1 (by rw [HPn.out 1]; simp) (congrArg (fun l : List Int => l.getD 1 0) (HPn.out 1)); have fb := ints_at (show RowI W3 (.slice (some ⟨sb, 0, none⟩) 3 sc) _ from Hold.at h3 6 rfl) 2 (by rw [HPn.out 1]; simp) (congrArg (fun l : List Int => l.getD 2 0) (HPn.out 1)); have fal := lt_of_cell fa; obtain ⟨fe0, fe1, fe2, fe3, fe4, fe5, fe6, fe7, fe8⟩ := HE9.out _ (show Blk W3 eb 134 (es.flatMap peC ++ rest) from Hold.at h3 12 rfl); have fel := lt_of_cell fe0; have HH3 := Lib.hid h3; clear h3)
                      | (go_at_call 77; (first | (with_reducible refine (HLk.out _ bq).mono ?_) | (with_reducible refine (HLk.out _ (bq.trans ((below_of_drewN W3 _).mono bq.size))).mono ?_)); rintro e W4 ⟨⟨r4, rfl⟩, V4, av4, h4⟩; have h4' : JG w0 W4 A P V4 F jb root (.slice (some ⟨sb, 0, none⟩) 3 sc) av4 (jlks P J root page es (1 + 1)) ([box (kb + 1) 48 [.bool mw, .bool mu, .bool mx], box kb 54 [.int .i64 lg, .int .i64 lv, .int .i64 lr], box eb 134 (es.flatMap peC ++ rest), box pb 71 [.slice (some ⟨ab, 0, none⟩) n c, .int .i64 pg, .bool prw, .bool pru, .bool prx, .bool pl, .bool pd]] ++ ts) := h4; have gj := (show Blk W4 jb 161 (jcells F root (.slice (some ⟨sb, 0, none⟩) 3 sc) _) from Hold.at h4' 5 rfl).cell (k := 2) rfl; have gjl := (h4'.j).lt; have ga := ints_at (show RowI W4 (.slice (some ⟨sb, 0, none⟩) 3 sc) _ from Hold.at h4' 6 rfl) 1 (by rw [HPn.out 2]; simp) (congrArg (fun l : List Int => l.getD 1 0) (HPn.out 2)); have gb := ints_at (show RowI W4 (.slice (some ⟨sb, 0, none⟩) 3 sc) _ from Hold.at h4' 6 rfl) 2 (by rw [HPn.out 2]; simp) (congrArg (fun l : List Int => l.getD 2 0) (HPn.out 2)); have gal := lt_of_cell ga; obtain ⟨ge0, ge1, ge2, ge3, ge4, ge5, ge6, ge7, ge8⟩ := HE9.out _ (show Blk W4 eb 134 (es.flatMap peC ++ rest) from Hold.at h4' 12 rfl); have gel := lt_of_cell ge0; have HH4 := Lib.hid h4'; clear h4 h4'))
                    all_goals
                      go_wp2_with fail
                      go_roundw
                      case rel => first | exact ⟨2, by omega, rfl, V4, av4, HH4.out⟩ | ((repeat apply Exists.intro); exact ⟨⟨2, by omega, rfl, V4, av4, HH4.out⟩, rfl⟩)
                      case measure => simp [intOf]
                · obtain rfl : k = 2 := by omega
                  clear hk2 hk
                  obtain ⟨pt, hpt⟩ : ∃ x, gprot (jlks P J root page es 2).G pg = x := ⟨_, rfl⟩
                  have hgp := gprot_any (H5.past (Below.refl _ _).drew).hg pg
                  try dsimp only at hgp
                  rw [hpt] at hgp
                  obtain ⟨m', hm⟩ : ∃ x, (mw && d && !pt) = x := ⟨_, rfl⟩
                  have HPt := Lib.hid hgp
                  have HPq := Lib.hid hpt
                  have HM := Lib.hid hm
                  have HH6 := Lib.hid H5
                  have r := (show Blk wr (kb + 1) 48 [.bool mw, .bool mu, .bool mx] from Hold.at H5 10 rfl)
                  have r0 := r.cell (k := 0) rfl
                  have rf := fun k => r.free k
                  have rl := r.lt
                  clear r
                  have f3 := (H5.f).cell (k := 3) rfl
                  have fl := (H5.f).lt
                  have p1 := (show Blk wr pb 71 [.slice (some ⟨ab, 0, none⟩) n c, .int .i64 pg, .bool prw, .bool pru, .bool prx, .bool pl, .bool pd] from Hold.at H5 13 rfl).cell (k := 1) rfl
                  have pbl := (show Blk wr pb 71 [.slice (some ⟨ab, 0, none⟩) n c, .int .i64 pg, .bool prw, .bool pru, .bool prx, .bool pl, .bool pd] from Hold.at H5 13 rfl).lt
                  clear hgp hpt hm H5
                  go_upto_region 24 with (fail)
                  go_cut [] from 126 (fun wx => ∃ V', JG w0 wx A P V' F jb root (.slice (some ⟨sb, 0, none⟩) 3 sc) av5 (jlks P J root page es 2) ([box (kb + 1) 48 [.bool m', .bool mu, .bool mx], box kb 54 [.int .i64 lg, .int .i64 lv, .int .i64 lr], box eb 134 (es.flatMap peC ++ rest), box pb 71 [.slice (some ⟨ab, 0, none⟩) n c, .int .i64 pg, .bool prw, .bool pru, .bool prx, .bool pl, .bool pd]] ++ ts))
                  case first =>
                    cases mw
                    · have hm := HM.out
                      obtain rfl : m' = false := by rw [← hm]; rfl
                      clear HM hm
                      refine wp_region_last (fun w' => w'.cell? ⟨kb + 1, 0, none⟩ = some (.bool false) ∧ w'.cell? ⟨F.fl, 3, none⟩ = some (.pointer (some ⟨A.dp, 0, none⟩)) ∧ w'.cell? ⟨pb, 1, none⟩ = some (.int .i64 pg)) 16 (by kernel_rfl) (by (try dsimp only); go_keep) (fun hHeld => ?_)
                      refine' wpAnyT_take (i := 0) (v := _) rfl (by kernel_rfl) (by kernel_rfl) (by kernel_rfl) (by kernel_rfl) (by kernel_rfl) (fun _ _ _ h => h) (Or.inl ⟨by with_unfolding_all rfl, ?_⟩) (by assumption) ?_
                      rotate_left
                      focus (intro w hSw; (try dsimp only at hSw); go_simp; try (with_reducible rfl))
                      try simp only [List.getElem_toArray, List.getElem_cons_zero, Act.put, List.setIfInBounds_toArray, List.set_cons_zero, List.set_cons_succ]
                      refine' wpAnyT_take (i := 1) (v := _) rfl (by kernel_rfl) (by kernel_rfl) (by kernel_rfl) (by kernel_rfl) (by kernel_rfl) (fun _ _ _ h => h) (Or.inl ⟨by with_unfolding_all rfl, ?_⟩) (by assumption) ?_
                      rotate_left
                      focus (intro w hSw; (try dsimp only at hSw); go_simp; try (with_reducible rfl))
                      try simp only [List.getElem_toArray, List.getElem_cons_zero, List.getElem_cons_succ, Act.put, List.setIfInBounds_toArray, List.set_cons_zero, List.set_cons_succ]
                      refine' wpAnyT_take (i := 2) (v := _) rfl (by kernel_rfl) (by kernel_rfl) (by kernel_rfl) (by kernel_rfl) (by kernel_rfl) (fun _ _ _ h => h) (Or.inl ⟨by with_unfolding_all rfl, ?_⟩) (by assumption) ?_
                      rotate_left
                      focus (intro w hSw; (try dsimp only at hSw); go_simp; try (with_reducible rfl))
                      try simp only [List.getElem_toArray, List.getElem_cons_zero, List.getElem_cons_succ, Act.put, List.setIfInBounds_toArray, List.set_cons_zero, List.set_cons_succ]
                      refine wpAnyT_take (i := 3) (v := undef) rfl (by kernel_rfl) (by kernel_rfl) (by kernel_rfl) (by kernel_rfl) (by kernel_rfl) (fun _ _ _ h => h) (Or.inr ⟨by with_unfolding_all rfl, rfl⟩) (by assumption) ?_
                      try simp only [List.getElem_toArray, List.getElem_cons_zero, List.getElem_cons_succ, Act.put, List.setIfInBounds_toArray, List.set_cons_zero, List.set_cons_succ]
                      refine' wpAnyT_take (i := 4) (v := _) rfl (by kernel_rfl) (by kernel_rfl) (by kernel_rfl) (by kernel_rfl) (by kernel_rfl) (fun _ _ _ h => h) (Or.inl ⟨by with_unfolding_all rfl, ?_⟩) (by assumption) ?_
                      rotate_left
                      focus (intro w hSw; (try dsimp only at hSw); go_simp; try (with_reducible rfl))
                      try simp only [List.getElem_toArray, List.getElem_cons_zero, List.getElem_cons_succ, Act.put, List.setIfInBounds_toArray, List.set_cons_zero, List.set_cons_succ]
                      refine' wpAnyT_take (i := 5) (v := _) rfl (by kernel_rfl) (by kernel_rfl) (by kernel_rfl) (by kernel_rfl) (by kernel_rfl) (fun _ _ _ h => h) (Or.inl ⟨by with_unfolding_all rfl, ?_⟩) (by assumption) ?_
                      rotate_left
                      focus (intro w hSw; (try dsimp only at hSw); go_simp; try (with_reducible rfl))
                      try simp only [List.getElem_toArray, List.getElem_cons_zero, List.getElem_cons_succ, Act.put, List.setIfInBounds_toArray, List.set_cons_zero, List.set_cons_succ]
                      refine wpAnyT_take (i := 6) (v := undef) rfl (by kernel_rfl) (by kernel_rfl) (by kernel_rfl) (by kernel_rfl) (by kernel_rfl) (fun _ _ _ h => h) (Or.inr ⟨by with_unfolding_all rfl, rfl⟩) (by assumption) ?_
                      try simp only [List.getElem_toArray, List.getElem_cons_zero, List.getElem_cons_succ, Act.put, List.setIfInBounds_toArray, List.set_cons_zero, List.set_cons_succ]
                      refine wpAnyT_take (i := 7) (v := undef) rfl (by kernel_rfl) (by kernel_rfl) (by kernel_rfl) (by kernel_rfl) (by kernel_rfl) (fun _ _ _ h => h) (Or.inr ⟨by with_unfolding_all rfl, rfl⟩) (by assumption) ?_
                      try simp only [List.getElem_toArray, List.getElem_cons_zero, List.getElem_cons_succ, Act.put, List.setIfInBounds_toArray, List.set_cons_zero, List.set_cons_succ]
                      refine wpAnyT_take (i := 8) (v := undef) rfl (by kernel_rfl) (by kernel_rfl) (by kernel_rfl) (by kernel_rfl) (by kernel_rfl) (fun _ _ _ h => h) (Or.inr ⟨by with_unfolding_all rfl, rfl⟩) (by assumption) ?_
                      try simp only [List.getElem_toArray, List.getElem_cons_zero, List.getElem_cons_succ, Act.put, List.setIfInBounds_toArray, List.set_cons_zero, List.set_cons_succ]
                      refine wpAnyT_take (i := 9) (v := undef) rfl (by kernel_rfl) (by kernel_rfl) (by kernel_rfl) (by kernel_rfl) (by kernel_rfl) (fun _ _ _ h => h) (Or.inr ⟨by with_unfolding_all rfl, rfl⟩) (by assumption) ?_
                      try simp only [List.getElem_toArray, List.getElem_cons_zero, List.getElem_cons_succ, Act.put, List.setIfInBounds_toArray, List.set_cons_zero, List.set_cons_succ]
                      refine wpAnyT_take (i := 10) (v := undef) rfl (by kernel_rfl) (by kernel_rfl) (by kernel_rfl) (by kernel_rfl) (by kernel_rfl) (fun _ _ _ h => h) (Or.inr ⟨by with_unfolding_all rfl, rfl⟩) (by assumption) ?_
                      try simp only [List.getElem_toArray, List.getElem_cons_zero, List.getElem_cons_succ, Act.put, List.setIfInBounds_toArray, List.set_cons_zero, List.set_cons_succ]
                      refine wpAnyT_take (i := 11) (v := undef) rfl (by kernel_rfl) (by kernel_rfl) (by kernel_rfl) (by kernel_rfl) (by kernel_rfl) (fun _ _ _ h => h) (Or.inr ⟨by with_unfolding_all rfl, rfl⟩) (by assumption) ?_
                      try simp only [List.getElem_toArray, List.getElem_cons_zero, List.getElem_cons_succ, Act.put, List.setIfInBounds_toArray, List.set_cons_zero, List.set_cons_succ]
                      refine wpAnyT_take (i := 12) (v := undef) rfl (by kernel_rfl) (by kernel_rfl) (by kernel_rfl) (by kernel_rfl) (by kernel_rfl) (fun _ _ _ h => h) (Or.inr ⟨by with_unfolding_all rfl, rfl⟩) (by assumption) ?_
                      try simp only [List.getElem_toArray, List.getElem_cons_zero, List.getElem_cons_succ, Act.put, List.setIfInBounds_toArray, List.set_cons_zero, List.set_cons_succ]
                      refine wpAnyT_take (i := 13) (v := undef) rfl (by kernel_rfl) (by kernel_rfl) (by kernel_rfl) (by kernel_rfl) (by kernel_rfl) (fun _ _ _ h => h) (Or.inr ⟨by with_unfolding_all rfl, rfl⟩) (by assumption) ?_
                      try simp only [List.getElem_toArray, List.getElem_cons_zero, List.getElem_cons_succ, Act.put, List.setIfInBounds_toArray, List.set_cons_zero, List.set_cons_succ]
                      refine' wpAnyT_take (i := 14) (v := _) rfl (by kernel_rfl) (by kernel_rfl) (by kernel_rfl) (by kernel_rfl) (by kernel_rfl) (fun _ _ _ h => h) (Or.inl ⟨by with_unfolding_all rfl, ?_⟩) (by assumption) ?_
                      rotate_left
                      focus (intro w hSw; (try dsimp only at hSw); go_simp; try (with_reducible rfl))
                      try simp only [List.getElem_toArray, List.getElem_cons_zero, List.getElem_cons_succ, Act.put, List.setIfInBounds_toArray, List.set_cons_zero, List.set_cons_succ]
                      refine' wpAnyT_take (i := 15) (v := _) rfl (by kernel_rfl) (by kernel_rfl) (by kernel_rfl) (by kernel_rfl) (by kernel_rfl) (fun _ _ _ h => h) (Or.inl ⟨by with_unfolding_all rfl, ?_⟩) (by assumption) ?_
                      rotate_left
                      focus (intro w hSw; (try dsimp only at hSw); go_simp; try (with_reducible rfl))
                      try simp only [List.getElem_toArray, List.getElem_cons_zero, List.getElem_cons_succ, Act.put, List.setIfInBounds_toArray, List.set_cons_zero, List.set_cons_succ]
                      refine wpAnyL_one (i := 16) (by kernel_rfl) rfl (fun K hK => ?_)
                      rw [if_pos (by with_unfolding_all rfl)]
                      go_simp
                      refine hK.out _ _ (fun h => absurd rfl h) (fun _ => ?_)
                      clear hK K
                      refine wpAnyL_done (by kernel_rfl) ?_
                      go_wp2_with fail
                      go_meet
                      have h8 := Hold.put HH6.out 10 (b := kb + 1) rfl 0 (.bool false)
                      first
                        | exact ⟨_, h8⟩
                        | exact ⟨_, Hold.past h8 (Below.refl _ _).drew⟩
                        | exact ⟨_, Hold.put (Hold.past HH6.out (Below.refl _ _).drew) 10 (b := kb + 1) rfl 0 (.bool false)⟩
                    · cases d
                      · have hm := HM.out
                        obtain rfl : m' = false := by rw [← hm]; rfl
                        clear HM hm
                        refine wp_region_last (fun w' => w'.cell? ⟨kb + 1, 0, none⟩ = some (.bool true) ∧ w'.cell? ⟨F.fl, 3, none⟩ = some (.pointer (some ⟨A.dp, 0, none⟩)) ∧ w'.cell? ⟨pb, 1, none⟩ = some (.int .i64 pg)) 16 (by kernel_rfl) (by (try dsimp only); go_keep) (fun hHeld => ?_)
                        refine' wpAnyT_take (i := 0) (v := _) rfl (by kernel_rfl) (by kernel_rfl) (by kernel_rfl) (by kernel_rfl) (by kernel_rfl) (fun _ _ _ h => h) (Or.inl ⟨by with_unfolding_all rfl, ?_⟩) (by assumption) ?_
                        rotate_left
                        focus (intro w hSw; (try dsimp only at hSw); go_simp; try (with_reducible rfl))
                        try simp only [List.getElem_toArray, List.getElem_cons_zero, Act.put, List.setIfInBounds_toArray, List.set_cons_zero, List.set_cons_succ]
                        refine' wpAnyT_take (i := 1) (v := _) rfl (by kernel_rfl) (by kernel_rfl) (by kernel_rfl) (by kernel_rfl) (by kernel_rfl) (fun _ _ _ h => h) (Or.inl ⟨by with_unfolding_all rfl, ?_⟩) (by assumption) ?_
                        rotate_left
                        focus (intro w hSw; (try dsimp only at hSw); go_simp; try (with_reducible rfl))
                        try simp only [List.getElem_toArray, List.getElem_cons_zero, List.getElem_cons_succ, Act.put, List.setIfInBounds_toArray, List.set_cons_zero, List.set_cons_succ]
                        refine' wpAnyT_take (i := 2) (v := _) rfl (by kernel_rfl) (by kernel_rfl) (by kernel_rfl) (by kernel_rfl) (by kernel_rfl) (fun _ _ _ h => h) (Or.inl ⟨by with_unfolding_all rfl, ?_⟩) (by assumption) ?_
                        rotate_left
                        focus (intro w hSw; (try dsimp only at hSw); go_simp; try (with_reducible rfl))
                        try simp only [List.getElem_toArray, List.getElem_cons_zero, List.getElem_cons_succ, Act.put, List.setIfInBounds_toArray, List.set_cons_zero, List.set_cons_succ]
                        refine' wpAnyT_take (i := 3) (v := _) rfl (by kernel_rfl) (by kernel_rfl) (by kernel_rfl) (by kernel_rfl) (by kernel_rfl) (fun _ _ _ h => h) (Or.inl ⟨by with_unfolding_all rfl, ?_⟩) (by assumption) ?_
                        rotate_left
                        focus (intro w hSw; (try dsimp only at hSw); go_simp; try (with_reducible rfl))
                        try simp only [List.getElem_toArray, List.getElem_cons_zero, List.getElem_cons_succ, Act.put, List.setIfInBounds_toArray, List.set_cons_zero, List.set_cons_succ]
                        refine' wpAnyT_take (i := 4) (v := _) rfl (by kernel_rfl) (by kernel_rfl) (by kernel_rfl) (by kernel_rfl) (by kernel_rfl) (fun _ _ _ h => h) (Or.inl ⟨by with_unfolding_all rfl, ?_⟩) (by assumption) ?_
                        rotate_left
                        focus (intro w hSw; (try dsimp only at hSw); go_simp; try (with_reducible rfl))
                        try simp only [List.getElem_toArray, List.getElem_cons_zero, List.getElem_cons_succ, Act.put, List.setIfInBounds_toArray, List.set_cons_zero, List.set_cons_succ]
                        refine' wpAnyT_take (i := 5) (v := _) rfl (by kernel_rfl) (by kernel_rfl) (by kernel_rfl) (by kernel_rfl) (by kernel_rfl) (fun _ _ _ h => h) (Or.inl ⟨by with_unfolding_all rfl, ?_⟩) (by assumption) ?_
                        rotate_left
                        focus (intro w hSw; (try dsimp only at hSw); go_simp; try (with_reducible rfl))
                        try simp only [List.getElem_toArray, List.getElem_cons_zero, List.getElem_cons_succ, Act.put, List.setIfInBounds_toArray, List.set_cons_zero, List.set_cons_succ]
                        refine wpAnyT_take (i := 6) (v := undef) rfl (by kernel_rfl) (by kernel_rfl) (by kernel_rfl) (by kernel_rfl) (by kernel_rfl) (fun _ _ _ h => h) (Or.inr ⟨by with_unfolding_all rfl, rfl⟩) (by assumption) ?_
                        try simp only [List.getElem_toArray, List.getElem_cons_zero, List.getElem_cons_succ, Act.put, List.setIfInBounds_toArray, List.set_cons_zero, List.set_cons_succ]
                        refine wpAnyT_take (i := 7) (v := undef) rfl (by kernel_rfl) (by kernel_rfl) (by kernel_rfl) (by kernel_rfl) (by kernel_rfl) (fun _ _ _ h => h) (Or.inr ⟨by with_unfolding_all rfl, rfl⟩) (by assumption) ?_
                        try simp only [List.getElem_toArray, List.getElem_cons_zero, List.getElem_cons_succ, Act.put, List.setIfInBounds_toArray, List.set_cons_zero, List.set_cons_succ]
                        refine wpAnyT_take (i := 8) (v := undef) rfl (by kernel_rfl) (by kernel_rfl) (by kernel_rfl) (by kernel_rfl) (by kernel_rfl) (fun _ _ _ h => h) (Or.inr ⟨by with_unfolding_all rfl, rfl⟩) (by assumption) ?_
                        try simp only [List.getElem_toArray, List.getElem_cons_zero, List.getElem_cons_succ, Act.put, List.setIfInBounds_toArray, List.set_cons_zero, List.set_cons_succ]
                        refine wpAnyT_take (i := 9) (v := undef) rfl (by kernel_rfl) (by kernel_rfl) (by kernel_rfl) (by kernel_rfl) (by kernel_rfl) (fun _ _ _ h => h) (Or.inr ⟨by with_unfolding_all rfl, rfl⟩) (by assumption) ?_
                        try simp only [List.getElem_toArray, List.getElem_cons_zero, List.getElem_cons_succ, Act.put, List.setIfInBounds_toArray, List.set_cons_zero, List.set_cons_succ]
                        refine wpAnyT_take (i := 10) (v := undef) rfl (by kernel_rfl) (by kernel_rfl) (by kernel_rfl) (by kernel_rfl) (by kernel_rfl) (fun _ _ _ h => h) (Or.inr ⟨by with_unfolding_all rfl, rfl⟩) (by assumption) ?_
                        try simp only [List.getElem_toArray, List.getElem_cons_zero, List.getElem_cons_succ, Act.put, List.setIfInBounds_toArray, List.set_cons_zero, List.set_cons_succ]
                        refine wpAnyT_take (i := 11) (v := undef) rfl (by kernel_rfl) (by kernel_rfl) (by kernel_rfl) (by kernel_rfl) (by kernel_rfl) (fun _ _ _ h => h) (Or.inr ⟨by with_unfolding_all rfl, rfl⟩) (by assumption) ?_
                        try simp only [List.getElem_toArray, List.getElem_cons_zero, List.getElem_cons_succ, Act.put, List.setIfInBounds_toArray, List.set_cons_zero, List.set_cons_succ]
                        refine wpAnyT_take (i := 12) (v := undef) rfl (by kernel_rfl) (by kernel_rfl) (by kernel_rfl) (by kernel_rfl) (by kernel_rfl) (fun _ _ _ h => h) (Or.inr ⟨by with_unfolding_all rfl, rfl⟩) (by assumption) ?_
                        try simp only [List.getElem_toArray, List.getElem_cons_zero, List.getElem_cons_succ, Act.put, List.setIfInBounds_toArray, List.set_cons_zero, List.set_cons_succ]
                        refine wpAnyT_take (i := 13) (v := undef) rfl (by kernel_rfl) (by kernel_rfl) (by kernel_rfl) (by kernel_rfl) (by kernel_rfl) (fun _ _ _ h => h) (Or.inr ⟨by with_unfolding_all rfl, rfl⟩) (by assumption) ?_
                        try simp only [List.getElem_toArray, List.getElem_cons_zero, List.getElem_cons_succ, Act.put, List.setIfInBounds_toArray, List.set_cons_zero, List.set_cons_succ]
                        refine' wpAnyT_take (i := 14) (v := _) rfl (by kernel_rfl) (by kernel_rfl) (by kernel_rfl) (by kernel_rfl) (by kernel_rfl) (fun _ _ _ h => h) (Or.inl ⟨by with_unfolding_all rfl, ?_⟩) (by assumption) ?_
                        rotate_left
                        focus (intro w hSw; (try dsimp only at hSw); go_simp; try (with_reducible rfl))
                        try simp only [List.getElem_toArray, List.getElem_cons_zero, List.getElem_cons_succ, Act.put, List.setIfInBounds_toArray, List.set_cons_zero, List.set_cons_succ]
                        refine' wpAnyT_take (i := 15) (v := _) rfl (by kernel_rfl) (by kernel_rfl) (by kernel_rfl) (by kernel_rfl) (by kernel_rfl) (fun _ _ _ h => h) (Or.inl ⟨by with_unfolding_all rfl, ?_⟩) (by assumption) ?_
                        rotate_left
                        focus (intro w hSw; (try dsimp only at hSw); go_simp; try (with_reducible rfl))
                        try simp only [List.getElem_toArray, List.getElem_cons_zero, List.getElem_cons_succ, Act.put, List.setIfInBounds_toArray, List.set_cons_zero, List.set_cons_succ]
                        refine wpAnyL_one (i := 16) (by kernel_rfl) rfl (fun K hK => ?_)
                        rw [if_pos (by with_unfolding_all rfl)]
                        go_simp
                        refine hK.out _ _ (fun h => absurd rfl h) (fun _ => ?_)
                        clear hK K
                        refine wpAnyL_done (by kernel_rfl) ?_
                        go_wp2_with fail
                        go_meet
                        have h8 := Hold.put HH6.out 10 (b := kb + 1) rfl 0 (.bool false)
                        first
                          | exact ⟨_, h8⟩
                          | exact ⟨_, Hold.past h8 (Below.refl _ _).drew⟩
                          | exact ⟨_, Hold.put (Hold.past HH6.out (Below.refl _ _).drew) 10 (b := kb + 1) rfl 0 (.bool false)⟩
                      · have hm := HM.out
                        obtain rfl : m' = !pt := by rw [← hm]; rfl
                        clear HM hm
                        refine wp_region_last (fun w' => w'.cell? ⟨kb + 1, 0, none⟩ = some (.bool true) ∧ w'.cell? ⟨F.fl, 3, none⟩ = some (.pointer (some ⟨A.dp, 0, none⟩)) ∧ w'.cell? ⟨pb, 1, none⟩ = some (.int .i64 pg)) 16 (by kernel_rfl) (by (try dsimp only); go_keep) (fun hHeld => ?_)
                        refine' wpAnyT_take (i := 0) (v := _) rfl (by kernel_rfl) (by kernel_rfl) (by kernel_rfl) (by kernel_rfl) (by kernel_rfl) (fun _ _ _ h => h) (Or.inl ⟨by with_unfolding_all rfl, ?_⟩) (by assumption) ?_
                        rotate_left
                        focus (intro w hSw; (try dsimp only at hSw); go_simp; try (with_reducible rfl))
                        try simp only [List.getElem_toArray, List.getElem_cons_zero, Act.put, List.setIfInBounds_toArray, List.set_cons_zero, List.set_cons_succ]
                        refine' wpAnyT_take (i := 1) (v := _) rfl (by kernel_rfl) (by kernel_rfl) (by kernel_rfl) (by kernel_rfl) (by kernel_rfl) (fun _ _ _ h => h) (Or.inl ⟨by with_unfolding_all rfl, ?_⟩) (by assumption) ?_
                        rotate_left
                        focus (intro w hSw; (try dsimp only at hSw); go_simp; try (with_reducible rfl))
                        try simp only [List.getElem_toArray, List.getElem_cons_zero, List.getElem_cons_succ, Act.put, List.setIfInBounds_toArray, List.set_cons_zero, List.set_cons_succ]
                        refine' wpAnyT_take (i := 2) (v := _) rfl (by kernel_rfl) (by kernel_rfl) (by kernel_rfl) (by kernel_rfl) (by kernel_rfl) (fun _ _ _ h => h) (Or.inl ⟨by with_unfolding_all rfl, ?_⟩) (by assumption) ?_
                        rotate_left
                        focus (intro w hSw; (try dsimp only at hSw); go_simp; try (with_reducible rfl))
                        try simp only [List.getElem_toArray, List.getElem_cons_zero, List.getElem_cons_succ, Act.put, List.setIfInBounds_toArray, List.set_cons_zero, List.set_cons_succ]
                        refine' wpAnyT_take (i := 3) (v := _) rfl (by kernel_rfl) (by kernel_rfl) (by kernel_rfl) (by kernel_rfl) (by kernel_rfl) (fun _ _ _ h => h) (Or.inl ⟨by with_unfolding_all rfl, ?_⟩) (by assumption) ?_
                        rotate_left
                        focus (intro w hSw; (try dsimp only at hSw); go_simp; try (with_reducible rfl))
                        try simp only [List.getElem_toArray, List.getElem_cons_zero, List.getElem_cons_succ, Act.put, List.setIfInBounds_toArray, List.set_cons_zero, List.set_cons_succ]
                        refine' wpAnyT_take (i := 4) (v := _) rfl (by kernel_rfl) (by kernel_rfl) (by kernel_rfl) (by kernel_rfl) (by kernel_rfl) (fun _ _ _ h => h) (Or.inl ⟨by with_unfolding_all rfl, ?_⟩) (by assumption) ?_
                        rotate_left
                        focus (intro w hSw; (try dsimp only at hSw); go_simp; try (with_reducible rfl))
                        try simp only [List.getElem_toArray, List.getElem_cons_zero, List.getElem_cons_succ, Act.put, List.setIfInBounds_toArray, List.set_cons_zero, List.set_cons_succ]
                        refine' wpAnyT_take (i := 5) (v := _) rfl (by kernel_rfl) (by kernel_rfl) (by kernel_rfl) (by kernel_rfl) (by kernel_rfl) (fun _ _ _ h => h) (Or.inl ⟨by with_unfolding_all rfl, ?_⟩) (by assumption) ?_
                        rotate_left
                        focus (intro w hSw; (try dsimp only at hSw); go_simp; try (with_reducible rfl))
                        try simp only [List.getElem_toArray, List.getElem_cons_zero, List.getElem_cons_succ, Act.put, List.setIfInBounds_toArray, List.set_cons_zero, List.set_cons_succ]
                        refine' wpAnyT_take (i := 6) (v := _) rfl (by kernel_rfl) (by kernel_rfl) (by kernel_rfl) (by kernel_rfl) (by kernel_rfl) (fun _ _ _ h => h) (Or.inl ⟨by with_unfolding_all rfl, ?_⟩) (by assumption) ?_
                        rotate_left
                        focus (intro w hSw; (try dsimp only at hSw); go_simp; try (with_reducible rfl))
                        try simp only [List.getElem_toArray, List.getElem_cons_zero, List.getElem_cons_succ, Act.put, List.setIfInBounds_toArray, List.set_cons_zero, List.set_cons_succ]
                        refine' wpAnyT_take (i := 7) (v := _) rfl (by kernel_rfl) (by kernel_rfl) (by kernel_rfl) (by kernel_rfl) (by kernel_rfl) (fun _ _ _ h => h) (Or.inl ⟨by with_unfolding_all rfl, ?_⟩) (by assumption) ?_
                        rotate_left
                        focus (intro w hSw; (try dsimp only at hSw); go_simp; try (with_reducible rfl))
                        try simp only [List.getElem_toArray, List.getElem_cons_zero, List.getElem_cons_succ, Act.put, List.setIfInBounds_toArray, List.set_cons_zero, List.set_cons_succ]
                        refine' wpAnyT_take (i := 8) (v := _) rfl (by kernel_rfl) (by kernel_rfl) (by kernel_rfl) (by kernel_rfl) (by kernel_rfl) (fun _ _ _ h => h) (Or.inl ⟨by with_unfolding_all rfl, ?_⟩) (by assumption) ?_
                        rotate_left
                        focus (intro w hSw; (try dsimp only at hSw); go_simp; try (with_reducible rfl))
                        try simp only [List.getElem_toArray, List.getElem_cons_zero, List.getElem_cons_succ, Act.put, List.setIfInBounds_toArray, List.set_cons_zero, List.set_cons_succ]
                        refine' wpAnyT_take (i := 9) (v := _) rfl (by kernel_rfl) (by kernel_rfl) (by kernel_rfl) (by kernel_rfl) (by kernel_rfl) (fun _ _ _ h => h) (Or.inl ⟨by with_unfolding_all rfl, ?_⟩) (by assumption) ?_
                        rotate_left
                        focus (intro w hSw; (try dsimp only at hSw); go_simp; try (with_reducible rfl))
                        try simp only [List.getElem_toArray, List.getElem_cons_zero, List.getElem_cons_succ, Act.put, List.setIfInBounds_toArray, List.set_cons_zero, List.set_cons_succ]
                        refine' wpAnyT_take (i := 10) (v := _) rfl (by kernel_rfl) (by kernel_rfl) (by kernel_rfl) (by kernel_rfl) (by kernel_rfl) (fun _ _ _ h => h) (Or.inl ⟨by with_unfolding_all rfl, ?_⟩) (by assumption) ?_
                        rotate_left
                        focus (intro w hSw; (try dsimp only at hSw); go_simp; try (with_reducible rfl))
                        try simp only [List.getElem_toArray, List.getElem_cons_zero, List.getElem_cons_succ, Act.put, List.setIfInBounds_toArray, List.set_cons_zero, List.set_cons_succ]
                        refine' wpAnyT_take (i := 11) (v := _) rfl (by kernel_rfl) (by kernel_rfl) (by kernel_rfl) (by kernel_rfl) (by kernel_rfl) (fun _ _ _ h => h) (Or.inl ⟨by with_unfolding_all rfl, ?_⟩) (by assumption) ?_
                        rotate_left
                        focus (intro w hSw; (try dsimp only at hSw); go_simp; try (with_reducible rfl))
                        try simp only [List.getElem_toArray, List.getElem_cons_zero, List.getElem_cons_succ, Act.put, List.setIfInBounds_toArray, List.set_cons_zero, List.set_cons_succ]
                        refine wpAnyL_one (i := 12) (by kernel_rfl) rfl (fun K hK => ?_)
                        rw [if_pos (by with_unfolding_all rfl)]
                        go_simp
                        (go_at_call 24; (with_reducible refine HPt.out.mono ?_); rintro e W7 ⟨rfl, b7⟩; have h7 := HH6.out.past ((Below.refl wr.heap.size wr).drew.trans b7); have cr := (show Blk W7 (kb + 1) 48 [.bool true, .bool mu, .bool mx] from Hold.at h7 10 rfl); have cr0 := cr.cell (k := 0) rfl; have crf := fun k => cr.free k; have crl := cr.lt; clear cr; have cf3 := (h7.f).cell (k := 3) rfl; have cfl := (h7.f).lt; have cp1 := (show Blk W7 pb 71 [.slice (some ⟨ab, 0, none⟩) n c, .int .i64 pg, .bool prw, .bool pru, .bool prx, .bool pl, .bool pd] from Hold.at h7 13 rfl).cell (k := 1) rfl; have cpbl := (show Blk W7 pb 71 [.slice (some ⟨ab, 0, none⟩) n c, .int .i64 pg, .bool prw, .bool pru, .bool prx, .bool pl, .bool pd] from Hold.at h7 13 rfl).lt; have HH7 := Lib.hid h7; clear h7)
                        refine hK.out _ _ (fun _ => (by (try dsimp only); go_keep)) (fun hHeld => ?_)
                        replace hHeld := hHeld (by decide)
                        clear hK K
                        try simp only [List.getElem_toArray, List.getElem_cons_zero, List.getElem_cons_succ, Act.put, List.setIfInBounds_toArray, List.set_cons_zero, List.set_cons_succ]
                        refine' wpAnyT_take (i := 13) (v := _) rfl (by kernel_rfl) (by kernel_rfl) (by kernel_rfl) (by kernel_rfl) (by kernel_rfl) (fun _ _ _ h => h) (Or.inl ⟨by with_unfolding_all rfl, ?_⟩) (by assumption) ?_
                        rotate_left
                        focus (intro w hSw; (try dsimp only at hSw); go_simp; try (with_reducible rfl))
                        try simp only [List.getElem_toArray, List.getElem_cons_zero, List.getElem_cons_succ, Act.put, List.setIfInBounds_toArray, List.set_cons_zero, List.set_cons_succ]
                        refine' wpAnyT_take (i := 14) (v := _) rfl (by kernel_rfl) (by kernel_rfl) (by kernel_rfl) (by kernel_rfl) (by kernel_rfl) (fun _ _ _ h => h) (Or.inl ⟨by with_unfolding_all rfl, ?_⟩) (by assumption) ?_
                        rotate_left
                        focus (intro w hSw; (try dsimp only at hSw); go_simp; try (with_reducible rfl))
                        try simp only [List.getElem_toArray, List.getElem_cons_zero, List.getElem_cons_succ, Act.put, List.setIfInBounds_toArray, List.set_cons_zero, List.set_cons_succ]
                        refine' wpAnyT_take (i := 15) (v := _) rfl (by kernel_rfl) (by kernel_rfl) (by kernel_rfl) (by kernel_rfl) (by kernel_rfl) (fun _ _ _ h => h) (Or.inl ⟨by with_unfolding_all rfl, ?_⟩) (by assumption) ?_
                        rotate_left
                        focus (intro w hSw; (try dsimp only at hSw); go_simp; try (with_reducible rfl))
                        try simp only [List.getElem_toArray, List.getElem_cons_zero, List.getElem_cons_succ, Act.put, List.setIfInBounds_toArray, List.set_cons_zero, List.set_cons_succ]
                        refine wpAnyL_one (i := 16) (by kernel_rfl) rfl (fun K hK => ?_)
                        rw [if_pos (by with_unfolding_all rfl)]
                        go_simp
                        refine hK.out _ _ (fun h => absurd rfl h) (fun _ => ?_)
                        clear hK K
                        refine wpAnyL_done (by kernel_rfl) ?_
                        go_wp2_with fail
                        go_meet
                        have h8 := Hold.put HH7.out 10 (b := kb + 1) rfl 0 (.bool (!pt))
                        first
                          | exact ⟨_, h8⟩
                          | exact ⟨_, Hold.past h8 (Below.refl _ _).drew⟩
                          | exact ⟨_, Hold.put (Hold.past HH7.out (Below.refl _ _).drew) 10 (b := kb + 1) rfl 0 (.bool (!pt))⟩
                  case rest =>
                    obtain ⟨V7, H7⟩ := hcut
                    obtain ⟨ix, hi, hi8⟩ := ixn page 1
                    have hid := fun W => idx_any page 1 W
                    simp only [hi] at hid
                    have hln := jlks_len P J root page es 2
                    have hlf := fun W (hW : Below wc.heap.size wc W) => leaf_j (H7.past hW) a2 ix hi8 pg m' mu mx (by have := hln.1; have := HAn.out; omega)
                    have hfin : jleaf P (jlks P J root page es 2) root a2 (ix : Int) pg ⟨m', mu, mx⟩ = jleaf P (jlks P J root page es 2) root (J.pinned.getD 2 0) (Go.Proofs.YtglohconhbcchaaGreatDoor.ix page 1) pg ⟨mw && d && !gprot (jlks P J root page es 2).G pg, mu, mx⟩ := by
                      rw [HPin.out, hi, HPq.out, HM.out]; rfl
                    rw [hfin] at hlf
                    obtain ⟨JF, hJF⟩ : ∃ x, jleaf P (jlks P J root page es 2) root (J.pinned.getD 2 0) (Go.Proofs.YtglohconhbcchaaGreatDoor.ix page 1) pg ⟨mw && d && !gprot (jlks P J root page es 2).G pg, mu, mx⟩ = x := ⟨_, rfl⟩
                    rw [hJF] at hlf
                    have hfp : JF.pinned = [a0, a1, a2] := by rw [← hJF]; exact (jlay_len P (jlks P J root page es 2) root _ _ _ _).2.trans (HPn.out 2)
                    have HFp := Lib.hid hfp
                    have HJF := Lib.hid hJF
                    have HId := Lib.hid hid
                    have HLf := Lib.hid hlf
                    have HH7 := Lib.hid H7
                    have cj := (show Blk wc jb 161 (jcells F root (.slice (some ⟨sb, 0, none⟩) 3 sc) _) from Hold.at H7 5 rfl).cell (k := 2) rfl
                    have cj3 := (show Blk wc jb 161 (jcells F root (.slice (some ⟨sb, 0, none⟩) 3 sc) _) from Hold.at H7 5 rfl).cell (k := 3) rfl
                    have cjl := (H7.j).lt
                    have ca := ints_at (show RowI wc (.slice (some ⟨sb, 0, none⟩) 3 sc) _ from Hold.at H7 6 rfl) 2 (by rw [HPn.out 2]; simp) (congrArg (fun l : List Int => l.getD 2 0) (HPn.out 2))
                    have cal := lt_of_cell ca
                    have cr0 := (show Blk wc (kb + 1) 48 [.bool m', .bool mu, .bool mx] from Hold.at H7 10 rfl).cell (k := 0) rfl
                    have cr1 := (show Blk wc (kb + 1) 48 [.bool m', .bool mu, .bool mx] from Hold.at H7 10 rfl).cell (k := 1) rfl
                    have cr2 := (show Blk wc (kb + 1) 48 [.bool m', .bool mu, .bool mx] from Hold.at H7 10 rfl).cell (k := 2) rfl
                    have crl := (show Blk wc (kb + 1) 48 [.bool m', .bool mu, .bool mx] from Hold.at H7 10 rfl).lt
                    have cp1 := (show Blk wc pb 71 [.slice (some ⟨ab, 0, none⟩) n c, .int .i64 pg, .bool prw, .bool pru, .bool prx, .bool pl, .bool pd] from Hold.at H7 13 rfl).cell (k := 1) rfl
                    have cpbl := (show Blk wc pb 71 [.slice (some ⟨ab, 0, none⟩) n c, .int .i64 pg, .bool prw, .bool pru, .bool prx, .bool pl, .bool pd] from Hold.at H7 13 rfl).lt
                    clear hid hlf H7 hfin hln hi hJF hfp r0 rf rl f3 fl p1 pbl HM
                    go_upto_region 25 with (fail)
                    go_region_held3 (fun w' => w'.cell? ⟨jb, 2, none⟩ = some (.slice (some ⟨sb, 0, none⟩) 3 sc) ∧ w'.cell? ⟨sb, 2, none⟩ = some (.int .i64 a2) ∧ w'.cell? ⟨pb, 1, none⟩ = some (.int .i64 pg) ∧ w'.cell? ⟨kb + 1, 0, none⟩ = some (.bool m') ∧ w'.cell? ⟨kb + 1, 1, none⟩ = some (.bool mu) ∧ w'.cell? ⟨kb + 1, 2, none⟩ = some (.bool mx)) (go_keep) (first
                      | (go_at_call 61; (with_reducible refine (HId.out _).mono ?_); rintro e W2 ⟨rfl, q2, rfl⟩)
                      | (go_at_call 78; (with_reducible refine (HLf.out _ (below_of_drewN wc _)).mono ?_); rintro e W4 ⟨⟨r4, rfl⟩, V4, av4, h4⟩; have h4' : JG w0 W4 A P V4 F jb root (.slice (some ⟨sb, 0, none⟩) 3 sc) av4 JF ([box (kb + 1) 48 [.bool m', .bool mu, .bool mx], box kb 54 [.int .i64 lg, .int .i64 lv, .int .i64 lr], box eb 134 (es.flatMap peC ++ rest), box pb 71 [.slice (some ⟨ab, 0, none⟩) n c, .int .i64 pg, .bool prw, .bool pru, .bool prx, .bool pl, .bool pd]] ++ ts) := h4; have gj := (show Blk W4 jb 161 (jcells F root (.slice (some ⟨sb, 0, none⟩) 3 sc) _) from Hold.at h4' 5 rfl).cell (k := 2) rfl; have gj3 := (show Blk W4 jb 161 (jcells F root (.slice (some ⟨sb, 0, none⟩) 3 sc) _) from Hold.at h4' 5 rfl).cell (k := 3) rfl; have gjl := (h4'.j).lt; have ga := ints_at (show RowI W4 (.slice (some ⟨sb, 0, none⟩) 3 sc) _ from Hold.at h4' 6 rfl) 2 (by rw [HFp.out]; simp) (congrArg (fun l : List Int => l.getD 2 0) (HFp.out)); have gal := lt_of_cell ga; have gr0 := (show Blk W4 (kb + 1) 48 [.bool m', .bool mu, .bool mx] from Hold.at h4' 10 rfl).cell (k := 0) rfl; have gr1 := (show Blk W4 (kb + 1) 48 [.bool m', .bool mu, .bool mx] from Hold.at h4' 10 rfl).cell (k := 1) rfl; have gr2 := (show Blk W4 (kb + 1) 48 [.bool m', .bool mu, .bool mx] from Hold.at h4' 10 rfl).cell (k := 2) rfl; have grl := (show Blk W4 (kb + 1) 48 [.bool m', .bool mu, .bool mx] from Hold.at h4' 10 rfl).lt; have gp1 := (show Blk W4 pb 71 [.slice (some ⟨ab, 0, none⟩) n c, .int .i64 pg, .bool prw, .bool pru, .bool prx, .bool pl, .bool pd] from Hold.at h4' 13 rfl).cell (k := 1) rfl; have gpbl := (show Blk W4 pb 71 [.slice (some ⟨ab, 0, none⟩) n c, .int .i64 pg, .bool prw, .bool pru, .bool prx, .bool pl, .bool pd] from Hold.at h4' 13 rfl).lt; have HH4 := Lib.hid h4'; clear h4 h4'))
                    all_goals
                      go_wp2_with fail
                      go_ret2
                      have h5 : HG w0 W4 A P V4 JF.G (ints av4 JF.anew :: fths F A P ts) := (HG.tail (HG.tail (JG.unbox (bs := [box (kb + 1) 48 [.bool m', .bool mu, .bool mx], box kb 54 [.int .i64 lg, .int .i64 lv, .int .i64 lr], box eb 134 (es.flatMap peC ++ rest), box pb 71 [.slice (some ⟨ab, 0, none⟩) n c, .int .i64 pg, .bool prw, .bool pru, .bool prx, .bool pl, .bool pd]]) HH4.out)))
                      refine ⟨av4, rfl, V4, ?_⟩
                      show HG w0 W4 A P V4 (jleaf P (jlks P J root page es 2) root (J.pinned.getD 2 0) (Go.Proofs.YtglohconhbcchaaGreatDoor.ix page 1) pg ⟨mw && d && !gprot (jlks P J root page es 2).G pg, mu, mx⟩).G (ints av4 (jleaf P (jlks P J root page es 2) root (J.pinned.getD 2 0) (Go.Proofs.YtglohconhbcchaaGreatDoor.ix page 1) pg ⟨mw && d && !gprot (jlks P J root page es 2).G pg, mu, mx⟩).anew :: fths F A P ts)
                      rw [HJF.out]
                      exact h5
end Go.Proofs.YtglohconhbcchaaGreatDoor
