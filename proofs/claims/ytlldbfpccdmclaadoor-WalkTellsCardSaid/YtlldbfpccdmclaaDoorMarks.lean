/- The law WalkMarks: the walk. -/
import Derived.Test.YtlldbfpccdmclaaDoorMarksP
import Derived.Test.YtlldbfpccdmclaaDoorStill
namespace Go.Proofs.YtlldbfpccdmclaaDoor
open Go.RowKit

/-- what the loops of WalkMarks hold -/
structure MI (w : World) (p fb pb : Nat) (a : Option Addr) (ats : List (Int × Int)) (cs : List Value) (u v : Value) (xs ys : List Nat) (W : World) : Prop where
  m : GM W p fb h16 16 ys
  e : EC W
  b : Below w.heap.size w W
  t : Blk W pb 31 cs
  s : Sl W a ats
  u : Wd W u xs
  v : Wd W v ys
theorem MI.past {w W W' : World} {p fb pb : Nat} {a : Option Addr} {ats : List (Int × Int)} {cs : List Value} {u v : Value} {xs ys : List Nat} (h : MI w p fb pb a ats cs u v xs ys W) (hb : Below W.heap.size W W') : MI w p fb pb a ats cs u v xs ys W' :=
  ⟨h.m.past hb, h.e.past hb, h.b.trans (hb.mono h.b.size), h.t.past hb, h.s.past hb, h.u.past hb, h.v.past hb⟩
theorem Wd.keptB {w w' : World} {p fb n : Nat} {hosts mem : List Nat} (M : GM w p fb hosts n mem) {v : Value} {l : List Nat} (h : Wd w v l) (hk : Kept w.heap.size (fun k => k = fb) w w') : Wd w' v l := by
  obtain ⟨b, c, rest, h1, h2⟩ := h
  exact ⟨b, c, rest, h1, M.keptB h2 (by decide) hk⟩
theorem sl_store {W : World} {pb : Nat} {cs : List Value} {a : Option Addr} {l : List (Int × Int)} (h : Sl W a l) (hp : Blk W pb 31 cs) (k : Nat) (v : Value) : Sl (W.setCell ⟨pb, k, none⟩ v) a l := by
  rcases h with h | ⟨b, rest, h1, h2⟩
  · exact .inl h
  · exact .inr ⟨b, rest, h1, h2.other (h2.ne hp (by decide)) v⟩
theorem below_store {w W : World} (h : Below w.heap.size w W) {pb : Nat} (hp : w.heap.size ≤ pb) (k : Nat) (v : Value) : Below w.heap.size w (W.setCell ⟨pb, k, none⟩ v) :=
  ((Kept.of_below (S := fun _ => False) h).setCell (p := ⟨pb, k, none⟩) (.inr hp) v).below (fun _ _ h => h)

theorem puts_bd {w : World} {a : Option Addr} {l : List (Int × Int × Nat)} (hp : Ps w a l) : ∀ v, v ∈ puts l → v < 2 ^ 64 := by
  have hps : ∀ x, x ∈ l → x.2.2 < 2 ^ 64 := by
    intro x hx
    rcases hp with rfl | ⟨b, off, _, _, h⟩
    · simp at hx
    · obtain ⟨j, hj, rfl⟩ := List.getElem_of_mem hx
      have := (h j hj).1
      rw [getD_at _ hj] at this
      exact this
  unfold puts
  have : ∀ (l : List (Int × Int × Nat)) (m : List Nat), (∀ x, x ∈ l → x.2.2 < 2 ^ 64) → (∀ v, v ∈ m → v < 2 ^ 64) → ∀ v, v ∈ l.foldl put1 m → v < 2 ^ 64 := by
    intro l
    induction l with
    | nil => intro m _ hm v hv; exact hm v hv
    | cons x l ih =>
      intro m hx hm
      rw [List.foldl_cons]
      refine ih _ (fun y hy => hx y (List.mem_cons_of_mem _ hy)) (fun v hv => ?_)
      unfold put1 wr at hv
      split at hv
      · rcases List.mem_or_eq_of_mem_set hv with h | h
        · exact hm v h
        · rw [h]; exact hx x (List.mem_cons_self ..)
      · exact hm v hv
  exact this l _ hps (by intro v hv; rw [List.mem_replicate] at hv; omega)

set_option maxRecDepth 100000 in
set_option maxHeartbeats 8000000 in
theorem marks_no (w : World) (hg : EC w) (a : Option Addr) (c : Nat) (l : List (Int × Int × Nat)) (hp : Ps w a l) (hlen : l.length ≤ 9223372036854775807) (root page kind : Nat) (user wt : Bool) (hrt : root < 256) (hpg : page < 65536) (hkd : kind < 256) (P : Path) (h k : Int)
    (ho : out (wk (rd h16 (puts l)) h16.length ((root % 16 : Nat) : Int) ((page % 512 : Nat) : Int) ((kind % 3 : Nat) : Int) user) = (P, h, k)) (hh : h = 3 ∨ h = 1) :
    Calls Tryd.prog 10 #[.slice a l.length c, .int .u8 (root : Int), .int .u16 (page : Int), .int .u8 (kind : Int), .bool user, .bool wt] w fun e w' => e = .returned (.bool true) ∧ Below w.heap.size w w' := by
  have hd := head_any w hg
  have hm := fun W (hb : Below w.heap.size w W) => made_any W a c l (hp.below hb) hlen
  obtain ⟨len, hl⟩ : ∃ len, l.length = len := ⟨_, rfl⟩
  obtain ⟨mem, hmem⟩ : ∃ mem, puts l = mem := ⟨_, rfl⟩
  rw [hmem] at ho
  obtain ⟨n, hn⟩ : ∃ n : Int, ((page % 512 : Nat) : Int) = n := ⟨_, rfl⟩
  obtain ⟨r, hr⟩ : ∃ k : Int, ((root % 16 : Nat) : Int) = k := ⟨_, rfl⟩
  obtain ⟨kd, hk⟩ : ∃ k : Int, ((kind % 3 : Nat) : Int) = k := ⟨_, rfl⟩
  rw [hn, hr, hk] at ho
  obtain ⟨pn, hpn⟩ : ∃ n, P.ats.length = n := ⟨_, rfl⟩
  have hw : ∀ W p fb, GM W p fb h16 16 mem → EC W → Calls Tryd.prog 13 #[.pointer (some ⟨p, 0, none⟩), .int .i64 r, .int .i64 n, .int .i64 kd, .bool user] W
      fun e w' => Below W.heap.size W w' ∧ ∃ a c, e = .returned (.tuple #[.agg #[.slice a pn c, .int .i64 P.g, .bool P.r.w, .bool P.r.u, .bool P.r.x, .bool P.large, .bool P.dirty], .int .i64 h, .int .i64 k]) ∧ Sl w' a P.ats := fun W p fb M E => by
    have := gm_walk M E r n kd user P h k ho
    rw [hpn] at this; exact this
  have hn1 : (page : Int) % 512 = n := by rw [← hn]; rfl
  have hr1 : (root : Int) % 16 = r := by rw [← hr]; rfl
  have hk1 : (kind : Int) % 3 = kd := by rw [← hk]; rfl
  have hn2 : 0 ≤ n ∧ n < 512 := by omega
  have hr2 : 0 ≤ r ∧ r < 16 := by omega
  have hk2 : 0 ≤ kd ∧ kd < 3 := by omega
  obtain ⟨hn3, hn4⟩ := hn2
  obtain ⟨hr3, hr4⟩ := hr2
  obtain ⟨hk3, hk4⟩ := hk2
  rw [hl] at hm ⊢
  rw [hmem] at hm
  have HW := Lib.hid hw
  have HH := Lib.hid hd
  have HM := Lib.hid hm
  have HG := Lib.hid hg
  clear hd hm hg hw ho hl hmem hlen hp hn hr hk hpn
  by_cases h600 : (600 : Int) < (len : Int)
  · clear hh
    go_enter Tryd.func10, Tryd.ntmps10
    go_wp2_with (first
      | (go_at_call 11; (with_reducible refine HH.out.mono ?_); rintro e W0 ⟨rfl, b0⟩)
      | (go_at_call 12; (with_reducible refine (HM.out _ b0).mono ?_); rintro e W1 ⟨⟨p, fb, rfl, M1, q1, q2⟩, b1⟩))
    go_ret
    exact ⟨rfl, b0.trans (b1.mono b0.size)⟩
  · have h600' : decide ((600 : Int) < (len : Int)) = false := by rw [decide_eq_false_iff_not]; exact h600
    clear h600
    rcases hh with rfl | rfl <;>
    · go_enter Tryd.func10, Tryd.ntmps10
      go_wp2_with (first
        | (go_at_call 11; (with_reducible refine HH.out.mono ?_); rintro e W0 ⟨rfl, b0⟩)
        | (go_at_call 12; (with_reducible refine (HM.out _ b0).mono ?_); rintro e W1 ⟨⟨p, fb, rfl, M1, q1, q2⟩, b1⟩; have A1 := b0.trans (b1.mono b0.size); have E1 := HG.out.past A1; clear q1 q2 b0 b1)
        | (go_at_call 13; (with_reducible refine (HW.out W1 _ _ M1 E1).mono ?_); rintro e W2 ⟨b2, a2, c2', rfl, s2⟩; have A2 := A1.trans (b2.mono A1.size)))
      go_ret
      exact ⟨rfl, A2.alloc A2.size _⟩

set_option maxRecDepth 100000 in
set_option maxHeartbeats 8000000 in
theorem marks_yes (w : World) (hg : EC w) (a : Option Addr) (c : Nat) (l : List (Int × Int × Nat)) (hp : Ps w a l) (hlen : l.length ≤ 9223372036854775807) (root page kind : Nat) (user wt : Bool) (hrt : root < 256) (hpg : page < 65536) (hkd : kind < 256) (ats : List (Int × Int)) (g0 : Int) (rt : Rt) (lg pd : Bool) (k : Int)
    (ho : out (wk (rd h16 (puts l)) h16.length ((root % 16 : Nat) : Int) ((page % 512 : Nat) : Int) ((kind % 3 : Nat) : Int) user) = (⟨ats, g0, rt, lg, pd⟩, 0, k)) (hbd : ∀ v, v ∈ puts l → v < 2 ^ 64) :
    Calls Tryd.prog 10 #[.slice a l.length c, .int .u8 (root : Int), .int .u16 (page : Int), .int .u8 (kind : Int), .bool user, .bool wt] w fun e w' => e = .returned (.bool true) ∧ Below w.heap.size w w' := by
  have hd := head_any w hg
  have hm := fun W (hb : Below w.heap.size w W) => made_any W a c l (hp.below hb) hlen
  have h128 := puts_len l
  obtain ⟨len, hl⟩ : ∃ len, l.length = len := ⟨_, rfl⟩
  obtain ⟨mem, hmem⟩ : ∃ mem, puts l = mem := ⟨_, rfl⟩
  rw [hmem] at ho h128 hbd
  obtain ⟨n, hn⟩ : ∃ n : Int, ((page % 512 : Nat) : Int) = n := ⟨_, rfl⟩
  obtain ⟨r, hr⟩ : ∃ k : Int, ((root % 16 : Nat) : Int) = k := ⟨_, rfl⟩
  obtain ⟨kd, hk⟩ : ∃ k : Int, ((kind % 3 : Nat) : Int) = k := ⟨_, rfl⟩
  rw [hn, hr, hk] at ho
  have hal3 : ats.length ≤ 3 := wk_len ho
  obtain ⟨d2, ho2, hd2, hin⟩ := marks_pure h128 ho wt
  dsimp only at ho2 hd2 hin
  have hqb : ∀ m, m < ats.length → (0 ≤ (ats.getD m (0, 0)).1 ∧ (ats.getD m (0, 0)).1 < 16 ∧ 0 ≤ (ats.getD m (0, 0)).2 ∧ (ats.getD m (0, 0)).2 < 8) := fun m hm => by
    rw [getD_at _ hm]; exact rd_bd (hin _ (List.getElem_mem _))
  obtain ⟨hu1, hu2⟩ := marks_used h128 ats wt hin
  have hwd := marks_word h128 hbd ats wt
  have h128' : (markMem h16 ats wt mem).length = 128 := by unfold markMem; rw [markTo_len, h128]
  obtain ⟨pn, hpn⟩ : ∃ n, ats.length = n := ⟨_, rfl⟩
  have hmk : ∀ W p fb a c, GM W p fb h16 16 mem → Sl W a ats → Calls Tryd.prog 29 #[.pointer (some ⟨p, 0, none⟩), .agg #[.slice a pn c, .int .i64 g0, .bool rt.w, .bool rt.u, .bool rt.x, .bool lg, .bool pd], .bool wt] W
      fun e w' => e = .returned (.bool true) ∧ GM w' p fb h16 16 (markMem h16 ats wt mem) ∧ Kept W.heap.size (fun k => k = fb) W w' := fun W p fb a c M hs => by
    have := mark_any W p fb 16 h16 mem a ⟨ats, g0, rt, lg, pd⟩ c wt M hs (by dsimp only; omega)
    dsimp only at this
    rw [hu1, hpn] at this; exact this
  obtain ⟨m2, hm2⟩ : ∃ m, markMem h16 ats wt mem = m := ⟨_, rfl⟩
  rw [hm2] at hmk ho2 hu2 hwd h128'
  have hmd : ∀ W p fb a c, GM W p fb h16 16 m2 → Sl W a ats → Calls Tryd.prog 27 #[.pointer (some ⟨p, 0, none⟩), .agg #[.slice a pn c, .int .i64 g0, .bool rt.w, .bool rt.u, .bool rt.x, .bool lg, .bool pd]] W
      fun e w' => e = .returned (.bool true) ∧ Below W.heap.size W w' := fun W p fb a c M hs => by
    have := marked_any W p fb 16 h16 m2 a ⟨ats, g0, rt, lg, pd⟩ c M hs (by dsimp only; omega)
    dsimp only at this
    rw [hu2, hpn] at this; exact this
  obtain ⟨dp, hdp⟩ : ∃ b, dup ats = b := ⟨_, rfl⟩
  rw [hdp] at hd2
  have hdd : dp = true ∨ d2 = (pd || wt) := by
    cases dp
    · exact .inr (hd2 rfl)
    · exact .inl rfl
  have htw : ∀ W a c, Sl W a ats → Calls Tryd.prog 23 #[.slice a pn c] W fun e w' => e = .returned (.bool dp) ∧ Below W.heap.size W w' := fun W a c hs => by
    have := twice_any W a c ats hs (by omega)
    rw [hpn, hdp] at this; exact this
  have hw : ∀ W p fb, GM W p fb h16 16 mem → EC W → Calls Tryd.prog 13 #[.pointer (some ⟨p, 0, none⟩), .int .i64 r, .int .i64 n, .int .i64 kd, .bool user] W
      fun e w' => Below W.heap.size W w' ∧ ∃ a c, e = .returned (.tuple #[.agg #[.slice a pn c, .int .i64 g0, .bool rt.w, .bool rt.u, .bool rt.x, .bool lg, .bool pd], .int .i64 0, .int .i64 k]) ∧ Sl w' a ats := fun W p fb M E => by
    have := gm_walk M E r n kd user _ 0 k ho
    dsimp only at this
    rw [hpn] at this; exact this
  have hw2 : ∀ W p fb, GM W p fb h16 16 m2 → EC W → Calls Tryd.prog 13 #[.pointer (some ⟨p, 0, none⟩), .int .i64 r, .int .i64 n, .int .i64 kd, .bool user] W
      fun e w' => Below W.heap.size W w' ∧ ∃ a c, e = .returned (.tuple #[.agg #[.slice a pn c, .int .i64 g0, .bool rt.w, .bool rt.u, .bool rt.x, .bool lg, .bool d2], .int .i64 0, .int .i64 0]) ∧ Sl w' a ats := fun W p fb M E => by
    have := gm_walk M E r n kd user _ 0 0 ho2
    dsimp only at this
    rw [hpn] at this; exact this
  have hs : ∀ W a a' c c', Sl W a ats → Sl W a' ats → Calls Tryd.prog 14 #[.agg #[.slice a pn c, .int .i64 g0, .bool rt.w, .bool rt.u, .bool rt.x, .bool lg, .bool d2], .agg #[.slice a' pn c', .int .i64 g0, .bool rt.w, .bool rt.u, .bool rt.x, .bool lg, .bool d2]] W
      fun e w' => e = .returned (.bool true) ∧ Below W.heap.size W w' := fun W a a' c c' h1 h2 => by
    have := same_any W a a' c c' ⟨ats, g0, rt, lg, d2⟩ ⟨ats, g0, rt, lg, d2⟩ h1 h2 (by dsimp only; omega) (by dsimp only; omega)
    dsimp only at this
    rw [hpn] at this
    simpa using this
  have hal : ∀ W p fb mm, mm.length = 128 → GM W p fb h16 16 mm → Calls Tryd.prog 32 #[.pointer (some ⟨p, 0, none⟩)] W
      fun e w' => (∃ v, e = .returned v ∧ Wd w' v mm) ∧ Below W.heap.size W w' := fun W p fb mm h M => all_words W p fb mm M h
  have hn1 : (page : Int) % 512 = n := by rw [← hn]; rfl
  have hr1 : (root : Int) % 16 = r := by rw [← hr]; rfl
  have hk1 : (kind : Int) % 3 = kd := by rw [← hk]; rfl
  have hn2 : 0 ≤ n ∧ n < 512 := by omega
  have hr2 : 0 ≤ r ∧ r < 16 := by omega
  have hk2 : 0 ≤ kd ∧ kd < 3 := by omega
  obtain ⟨hn3, hn4⟩ := hn2
  obtain ⟨hr3, hr4⟩ := hr2
  obtain ⟨hk3, hk4⟩ := hk2
  rw [hl] at hm ⊢
  rw [hmem] at hm
  rw [hpn] at hal3 hqb hwd
  have HW := Lib.hid hw
  have HW2 := Lib.hid hw2
  have HS := Lib.hid hs
  have HAl := Lib.hid hal
  have HMk := Lib.hid hmk
  have HMd := Lib.hid hmd
  have HT := Lib.hid htw
  have HH := Lib.hid hd
  have HM := Lib.hid hm
  have HG := Lib.hid hg
  have HPn := Lib.hid hpn
  have HP3 := Lib.hid hal3
  have HQ := Lib.hid hqb
  have HWd := Lib.hid hwd
  have HD := Lib.hid hdd
  have H1 := Lib.hid h128
  have H2 := Lib.hid h128'
  have hg0 := lt_of_cell hg
  have HG0 := Lib.hid hg0
  clear hd hm hg hw hw2 hs hal hmk hmd htw ho ho2 hl hmem hlen hp hn hr hk hpn hal3 hqb hwd hdd h128 h128' hg0 hbd hd2 hin hu1 hu2 hm2 hdp
  by_cases h600 : (600 : Int) < (len : Int)
  · go_enter Tryd.func10, Tryd.ntmps10
    go_wp2_with (first
      | (go_at_call 11; (with_reducible refine HH.out.mono ?_); rintro e W0 ⟨rfl, b0⟩)
      | (go_at_call 12; (with_reducible refine (HM.out _ b0).mono ?_); rintro e W1 ⟨⟨p, fb, rfl, M1, q1, q2⟩, b1⟩))
    go_ret
    exact ⟨rfl, b0.trans (b1.mono b0.size)⟩
  · have h600' : decide ((600 : Int) < (len : Int)) = false := by rw [decide_eq_false_iff_not]; exact h600
    clear h600
    go_enter Tryd.func10, Tryd.ntmps10
    go_wp2_with (first
      | (go_at_call 11; (with_reducible refine HH.out.mono ?_); rintro e W0 ⟨rfl, b0⟩)
      | (go_at_call 12; (with_reducible refine (HM.out _ b0).mono ?_); rintro e W1 ⟨⟨p, fb, rfl, M1, q1, q2⟩, b1⟩; have A1 := b0.trans (b1.mono b0.size); have E1 := HG.out.past A1; have q2' := Nat.le_trans b0.size q2; clear q1 q2 b0 b1)
      | (go_at_call 13; (with_reducible refine (HW.out W1 _ _ M1 E1).mono ?_); rintro e W2 ⟨b2, a2, c2, rfl, s2⟩; have M2 := M1.past b2; have E2 := E1.past b2; have A2 := A1.trans (b2.mono A1.size); have P2 := Blk.new W2 31 [.slice a2 pn c2, .int .i64 g0, .bool rt.w, .bool rt.u, .bool rt.x, .bool lg, .bool pd])
      | (go_at_call 32; (with_reducible refine (HAl.out _ _ _ _ H1.out (M2.past (bal _ _))).mono ?_); rintro e W3 ⟨⟨v3, rfl, d3⟩, b3⟩; have B3 := step b3; have M3 := M2.past B3; have E3 := E2.past B3; have A3 := A2.trans (B3.mono A2.size); have P3 := P2.past b3; have s3 := s2.past B3; have x0 := P3.cell (k := 0) rfl; have x1 := P3.cell (k := 1) rfl; have x2 := P3.cell (k := 2) rfl; have x3 := P3.cell (k := 3) rfl; have x4 := P3.cell (k := 4) rfl; have x5 := P3.cell (k := 5) rfl; have x6 := P3.cell (k := 6) rfl; have lx := P3.lt)
      | (go_at_call 29; (with_reducible refine (HMk.out _ _ _ _ _ M3 s3).mono ?_); rintro e W4 ⟨rfl, M4, K4⟩; have E4 := E3.kept (by have := HG0.out; omega) K4; have P4 := M3.keptB P3 (by decide) K4; have s4 := M3.keptS s3 K4; have d4 := Wd.keptB M3 d3 K4; have A4 := A3.trans ((K4.mono (B' := w.heap.size) (S' := fun k => k = fb) A3.size (fun _ _ h => h)).below (fun k hk e => by omega)); clear x0 x1 x2 x3 x4 x5 x6 lx; have x0 := P4.cell (k := 0) rfl; have x1 := P4.cell (k := 1) rfl; have x2 := P4.cell (k := 2) rfl; have x3 := P4.cell (k := 3) rfl; have x4 := P4.cell (k := 4) rfl; have x5 := P4.cell (k := 5) rfl; have x6 := P4.cell (k := 6) rfl; have lx := P4.lt)
      | (go_at_call 27; (with_reducible refine (HMd.out _ _ _ _ _ M4 s4).mono ?_); rintro e W5 ⟨rfl, b5⟩; have M5 := M4.past b5; have E5 := E4.past b5; have P5 := P4.past b5; have s5 := s4.past b5; have d5 := d4.past b5; have A5 := A4.trans (b5.mono A4.size))
      | (go_at_call 32; (with_reducible refine (HAl.out _ _ _ _ H2.out M5).mono ?_); rintro e W6 ⟨⟨v6, rfl, d6⟩, b6⟩; have S6 : MI w p fb W2.heap.size a2 ats _ v3 v6 mem m2 W6 := ⟨M5.past b6, E5.past b6, A5.trans (b6.mono A5.size), P5.past b6, s5.past b6, d5.past b6, d6⟩))
    obtain ⟨pb, hpb⟩ : ∃ x, W2.heap.size = x := ⟨_, rfl⟩
    have hpw : w.heap.size ≤ pb := by rw [← hpb]; exact A2.size
    have HPB := Lib.hid hpw
    rw [hpb] at S6 ⊢
    clear hpb hpw M1 E1 A1 b2 M2 E2 A2 P2 s2 d3 b3 B3 M3 E3 A3 P3 s3 K4 M4 E4 P4 s4 d4 A4 x0 x1 x2 x3 x4 x5 x6 lx b5 M5 E5 P5 s5 d5 A5 b6 d6 HM HH HW HAl HMk HMd
    go_loopw [22] (fun f wr => ∃ k : Nat, k ≤ 128 ∧ f = .int .i64 k ∧ MI w p fb pb a2 ats [.slice a2 pn c2, .int .i64 g0, .bool rt.w, .bool rt.u, .bool rt.x, .bool lg, .bool pd] v3 v6 mem m2 wr) (fun f _ => 128 - (intOf f).toNat)
    case atStart => exact ⟨0, by omega, rfl, S6⟩
    case round =>
      obtain ⟨k, hk, rfl, hS⟩ := hrel
      clear S6
      obtain ⟨bu, cu, rfl, lu, au⟩ := hS.u.at
      obtain ⟨bv, cv, rfl, lv, av⟩ := hS.v.at
      rw [H1.out] at au hS ⊢
      rw [H2.out] at av hS ⊢
      by_cases hk8 : k < 128
      · have c0 := au k hk8
        have c1 := av k hk8
        have hww := HWd.out k hk8
        obtain ⟨x, hx⟩ : ∃ x, mem.getD k 0 = x := ⟨_, rfl⟩
        obtain ⟨y, hy⟩ : ∃ x, m2.getD k 0 = x := ⟨_, rfl⟩
        rw [hx] at c0 hww
        rw [hy] at c1 hww
        have HWk := Lib.hid hww
        have C0 := Lib.hid c0
        have C1 := Lib.hid c1
        have SS := Lib.hid hS
        have hd1 : decide ((k : Int) < 128) = true := by rw [decide_eq_true_iff]; omega
        clear hS hww hx hy c0 c1 au av
        go_wp2_with fail
        clear hd1
        go_loopw [23, 24] (fun b f wq => ∃ m : Nat, m ≤ pn ∧ f = .int .i64 m ∧ b = .bool (hasW ats k m) ∧ Below wr.heap.size wr wq) (fun _ f _ => pn - (intOf f).toNat)
        case atStart => exact ⟨0, by omega, rfl, rfl, Below.refl _ _⟩
        case round =>
          obtain ⟨m, hm, rfl, rfl, hBq⟩ := hrel
          have hs0 := (SS.out.t.past hBq).cell (k := 0) rfl
          by_cases hmr : m < pn
          · have hp3 := HP3.out
            have hsu := hasW_succ ats k m
            obtain ⟨bb, hbb⟩ : ∃ b, hasW ats k m = b := ⟨_, rfl⟩
            rw [hbb] at hsu ⊢
            obtain ⟨br, rest, rfl, hbr⟩ := sl_some (SS.out.s.past hBq) (by rw [HPn.out]; omega)
            obtain ⟨c0, c1⟩ := Sl.at hbr m (by rw [HPn.out]; exact hmr)
            have hqm := HQ.out m hmr
            obtain ⟨⟨y1, y2⟩, hy⟩ : ∃ x, ats.getD m (0, 0) = x := ⟨_, rfl⟩
            rw [hy] at c0 c1 hsu hqm
            obtain ⟨z1, z2, z3, z4⟩ := hqm
            have HSu := Lib.hid hsu
            clear hsu hy hbb hbr
            dsimp only at c0 c1 z1 z2 z3 z4
            cases bb with
            | true =>
              go_wp2_with fail
              go_quiet (fail)
              go_wp2
              go_roundw
              case rel => exact ⟨m + 1, by omega, by simp, by rw [HSu.out]; rfl, hBq.trans (below_of_drewN _ _ |>.mono hBq.size)⟩
              case measure => simp [intOf]; omega
            | false =>
              go_wp2_with fail
              go_quiet (fail)
              go_wp2
              go_roundw
              case rel => exact ⟨m + 1, by omega, by simp, by rw [HSu.out]; simp [Bool.beq_eq_decide_eq], hBq.trans (below_of_drewN _ _ |>.mono hBq.size)⟩
              case measure => simp [intOf]; omega
          · obtain rfl : m = pn := by omega
            have c0 := (hBq.cell (p := ⟨bu, k, none⟩) lu).trans C0.out
            have c1 := (hBq.cell (p := ⟨bv, k, none⟩) lv).trans C1.out
            have S2 := Lib.hid (SS.out.past hBq)
            by_cases hxy : y = x
            · subst hxy
              obtain ⟨bb, hbb⟩ : ∃ b, hasW ats k m = b := ⟨_, rfl⟩
              rw [hbb] at ⊢
              clear HWk hbb
              go_wp2_with fail
              go_quiet (fail)
              all_goals go_wp2
              all_goals go_roundw
              case rel => exact ⟨k + 1, by omega, by simp, S2.out.past (below_of_drewN _ _)⟩
              case measure => simp [intOf]; omega
            · have hwk := HWk.out.resolve_left hxy
              obtain ⟨hh1, z, hz1, hz2, hz3⟩ := hwk
              have f1 : ((y : Int) == (x : Int)) = false := beq_eq_false_iff_ne.2 (fun h => hxy (by exact_mod_cast h))
              have f2 : ((y : Int) != (x : Int)) = true := by rw [bne_iff_ne]; exact fun h => hxy (by exact_mod_cast h)
              rw [hh1]
              clear hxy HWk
              go_wp2_with fail
              go_quiet (fail)
              all_goals go_wp2
              all_goals go_roundw
              case rel => exact ⟨k + 1, by omega, by simp, S2.out.past (below_of_drewN _ _)⟩
              case measure => simp [intOf]; omega
      · obtain rfl : k = 128 := by omega
        have SS := Lib.hid hS
        have hF : ∀ W8 W9 a8 c8, MI w p fb pb a2 ats [.slice a2 pn c2, .int .i64 g0, .bool rt.w, .bool rt.u, .bool rt.x, .bool lg, .bool pd] (.slice (some ⟨bu, 0, none⟩) 128 cu) (.slice (some ⟨bv, 0, none⟩) 128 cv) mem m2 W8 →
            Below ((W8.setCell ⟨pb, 6, none⟩ (.bool d2)).alloc (.cells #[.slice a8 pn c8, .int .i64 g0, .bool rt.w, .bool rt.u, .bool rt.x, .bool lg, .bool d2] 31)).heap.size ((W8.setCell ⟨pb, 6, none⟩ (.bool d2)).alloc (.cells #[.slice a8 pn c8, .int .i64 g0, .bool rt.w, .bool rt.u, .bool rt.x, .bool lg, .bool d2] 31)) W9 →
            Below w.heap.size w W9 ∧ W9.cell? ⟨W8.heap.size, 6, none⟩ = some (.bool d2) ∧ W9.cell? ⟨pb, 0, none⟩ = some (.slice a2 pn c2) ∧ Sl W9 a2 ats := by
          intro W8 W9 a8 c8 S b9
          have bb := bal (W8.setCell ⟨pb, 6, none⟩ (.bool d2)) (.cells #[.slice a8 pn c8, .int .i64 g0, .bool rt.w, .bool rt.u, .bool rt.x, .bool lg, .bool d2] 31)
          have A8 := below_store S.b HPB.out 6 (.bool d2)
          have A9 := A8.trans (bb.mono A8.size)
          have Q9 := (Blk.new (W8.setCell ⟨pb, 6, none⟩ (.bool d2)) 31 [.slice a8 pn c8, .int .i64 g0, .bool rt.w, .bool rt.u, .bool rt.x, .bool lg, .bool d2]).past b9
          rw [show (W8.setCell ⟨pb, 6, none⟩ (.bool d2)).heap.size = W8.heap.size by simp] at Q9
          have R9 := ((S.t.set 6 (.bool d2)).past bb).past b9
          exact ⟨A9.trans (b9.mono A9.size), Q9.cell (k := 6) rfl, R9.cell (k := 0) rfl, ((sl_store S.s S.t 6 (.bool d2)).past bb).past b9⟩
        have HF := Lib.hid hF
        have hdd := HD.out
        clear hS hk8 hF au av HD HWd HQ HP3 H1 H2 HPn
        rcases hdd with rfl | hdd
        · cases pd <;> cases wt <;> cases d2 <;>
          (
            go_wp2_with (first
              | (go_at_call 13; (with_reducible refine (HW2.out wr _ _ SS.out.m SS.out.e).mono ?_); rintro e W8 ⟨b8, a8, c8, rfl, s8⟩; have S8 := SS.out.past b8; have x0 := S8.t.cell (k := 0) rfl; have x1 := S8.t.cell (k := 1) rfl; have x2 := S8.t.cell (k := 2) rfl; have x3 := S8.t.cell (k := 3) rfl; have x4 := S8.t.cell (k := 4) rfl; have x5 := S8.t.cell (k := 5) rfl; have x6 := S8.t.cell (k := 6) rfl; have xf := S8.t.free 6; have lx := S8.t.lt; have SS8 := Lib.hid S8; clear S8)
              | (go_at_call 14; (with_reducible refine (HS.out _ _ _ _ _ ((sl_store SS8.out.s SS8.out.t 6 _).past (bal _ _)) ((sl_store s8 SS8.out.t 6 _).past (bal _ _))).mono ?_); rintro e W9 ⟨rfl, b9⟩; have B9 := HF.out W8 W9 a8 c8 SS8.out b9; obtain ⟨B9, y6, z0, s9⟩ := B9; clear x0 x1 x2 x3 x4 x5 x6 xf)
              | (go_at_call 23; (with_reducible refine (HT.out _ _ _ s9).mono ?_); rintro e W10 ⟨rfl, b10⟩; have B10 := B9.trans (b10.mono B9.size)))
            go_ret
            first | exact ⟨rfl, B10⟩ | exact ⟨rfl, B9⟩)
        · cases pd <;> cases wt <;> cases d2 <;> first
            | exact absurd hdd (by decide)
            | (clear hdd
               go_wp2_with (first
                 | (go_at_call 13; (with_reducible refine (HW2.out wr _ _ SS.out.m SS.out.e).mono ?_); rintro e W8 ⟨b8, a8, c8, rfl, s8⟩; have S8 := SS.out.past b8; have x0 := S8.t.cell (k := 0) rfl; have x1 := S8.t.cell (k := 1) rfl; have x2 := S8.t.cell (k := 2) rfl; have x3 := S8.t.cell (k := 3) rfl; have x4 := S8.t.cell (k := 4) rfl; have x5 := S8.t.cell (k := 5) rfl; have x6 := S8.t.cell (k := 6) rfl; have xf := S8.t.free 6; have lx := S8.t.lt; have SS8 := Lib.hid S8; clear S8)
                 | (go_at_call 14; (with_reducible refine (HS.out _ _ _ _ _ ((sl_store SS8.out.s SS8.out.t 6 _).past (bal _ _)) ((sl_store s8 SS8.out.t 6 _).past (bal _ _))).mono ?_); rintro e W9 ⟨rfl, b9⟩; have B9 := HF.out W8 W9 a8 c8 SS8.out b9; obtain ⟨B9, y6, z0, s9⟩ := B9; clear x0 x1 x2 x3 x4 x5 x6 xf)
                 | (go_at_call 23; (with_reducible refine (HT.out _ _ _ s9).mono ?_); rintro e W10 ⟨rfl, b10⟩; have B10 := B9.trans (b10.mono B9.size)))
               go_ret
               first | exact ⟨rfl, B10⟩ | exact ⟨rfl, B9⟩)

theorem marks_walk (w : World) (hg : EC w) (a : Option Addr) (c : Nat) (l : List (Int × Int × Nat)) (hp : Ps w a l) (hlen : l.length ≤ 9223372036854775807) (root : Int) (hroot : (Lit.int .u8 root).wf = true) (page : Int) (hpage : (Lit.int .u16 page).wf = true) (kind : Int) (hkind : (Lit.int .u8 kind).wf = true) (user wt : Bool) :
    Calls Tryd.prog 10 #[.slice a l.length c, .int .u8 root, .int .u16 page, .int .u8 kind, .bool user, .bool wt] w fun e w' => e = .returned (.bool true) ∧ Below w.heap.size w w' := by
  obtain ⟨root, rfl, hrt⟩ := u8_bd hroot
  obtain ⟨page, rfl, hpg⟩ := u16_bd hpage
  obtain ⟨kind, rfl, hkd⟩ := u8_bd hkind
  have hbd := puts_bd hp
  obtain ⟨⟨P, h, k⟩, ho⟩ : ∃ o, out (wk (rd h16 (puts l)) h16.length ((root % 16 : Nat) : Int) ((page % 512 : Nat) : Int) ((kind % 3 : Nat) : Int) user) = o := ⟨_, rfl⟩
  have hh : h = 3 ∨ h = 1 ∨ h = 0 := by
    rcases wk_forms (rd h16 (puts l)) h16.length ((root % 16 : Nat) : Int) ((page % 512 : Nat) : Int) with f | f | f | ⟨_, f⟩
    · rw [f] at ho; simp at ho; omega
    · rw [f] at ho; simp at ho; omega
    · rw [f] at ho; simp at ho; omega
    · rw [f] at ho
      split at ho
      · simp at ho; omega
      · split at ho
        · simp at ho; omega
        · simp at ho; omega
  rcases hh with rfl | rfl | rfl
  · exact marks_no w hg a c l hp hlen root page kind user wt hrt hpg hkd P 3 k ho (.inl rfl)
  · exact marks_no w hg a c l hp hlen root page kind user wt hrt hpg hkd P 1 k ho (.inr rfl)
  · obtain ⟨ats, g0, rt, lg, pd⟩ := P
    exact marks_yes w hg a c l hp hlen root page kind user wt hrt hpg hkd ats g0 rt lg pd k ho hbd
end Go.Proofs.YtlldbfpccdmclaaDoor
