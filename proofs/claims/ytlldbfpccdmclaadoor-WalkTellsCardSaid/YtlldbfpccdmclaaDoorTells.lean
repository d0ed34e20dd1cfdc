/- The law WalkTells: the walk. -/
import Derived.Test.YtlldbfpccdmclaaDoorRMark
import Derived.Test.YtlldbfpccdmclaaDoorPlain
import Derived.Test.YtlldbfpccdmclaaDoorMarks
namespace Go.Proofs.YtlldbfpccdmclaaDoor
open Go.RowKit

theorem wk_len' {get : Int → Int → Option Nat} {frames : Nat} {root page kind : Int} {user : Bool} {P : Path} {h k : Int} (ho : out (wk get frames root page kind user) = (P, h, k)) : P.ats.length ≤ 3 := by
  cases hw : wk get frames root page kind user with
  | error e => obtain ⟨a, b⟩ := e; rw [hw] at ho; simp only [out, Prod.mk.injEq] at ho; rw [← ho.1]; show 0 ≤ 3; omega
  | ok p =>
    have h2 : out (wk get frames root page kind user) = (p, 0, 0) := by rw [hw]; rfl
    have := wk_len h2
    rw [h2] at ho
    simp only [Prod.mk.injEq] at ho
    rw [← ho.1]; exact this
theorem GM.keptRM {w w' : World} {p fb n p' wb n' : Nat} {hosts mem hosts' mem' : List Nat} (h : GM w p fb hosts n mem) (R : RM w p' wb hosts' n' mem') (hk : Kept w.heap.size (fun k => k = fb) w w') : RM w' p' wb hosts' n' mem' := by
  obtain ⟨hp, mp, sb, cap, H, G⟩ := R
  exact ⟨hp, mp, sb, cap, ⟨h.keptB H.hdr (by decide) hk, h.keptB H.row (by decide) hk, H.len, H.small, H.bd⟩, ⟨h.keptB G.hdr (by decide) hk, h.keptB G.gm (by decide) hk, G.row.imp fun _ x => h.keptB x (by decide) hk, G.len, G.bd⟩⟩
theorem RM.keptGM {w w' : World} {p fb n p' wb n' : Nat} {hosts mem hosts' mem' : List Nat} (h : RM w p' wb hosts' n' mem') (M : GM w p fb hosts n mem) (hk : Kept w.heap.size (fun k => k = wb) w w') : GM w' p fb hosts n mem := by
  obtain ⟨gp, hb', mb, fp, cap, H, G⟩ := M
  exact ⟨gp, hb', mb, fp, cap, ⟨h.keptB H.hdr (by decide) hk, h.keptB H.row (by decide) hk, H.len, H.small, H.bd⟩, ⟨h.keptB G.hdr (by decide) hk, h.keptB G.gm (by decide) hk, G.row.imp fun _ x => h.keptB x (by decide) hk, G.len, G.bd⟩⟩
set_option maxRecDepth 100000 in
set_option maxHeartbeats 8000000 in
theorem tells_walk (w : World) (hg : EC w) (a : Option Addr) (c : Nat) (l : List (Int × Int × Nat)) (hp : Ps w a l) (hlen : l.length ≤ 9223372036854775807) (root page kind : Int) (user wt : Bool) :
    Calls Tryd.prog 8 #[.slice a l.length c, .int .i64 root, .int .i64 page, .int .i64 kind, .bool user, .bool wt] w fun e w' => e = .returned (.bool true) ∧ Below w.heap.size w w' := by
  have hd := head_any w hg
  have hm := fun W (hb : Below w.heap.size w W) => made_any W a c l (hp.below hb) hlen
  have hpl := fun W (hb : Below w.heap.size w W) => plain_any W a c l (hp.below hb) hlen
  have h128 := puts_len l
  obtain ⟨len, hl⟩ : ∃ len, l.length = len := ⟨_, rfl⟩
  obtain ⟨mem, hmem⟩ : ∃ mem, puts l = mem := ⟨_, rfl⟩
  rw [hmem] at h128
  obtain ⟨⟨⟨ats, g0, rt, lg, pd⟩, h, k⟩, ho⟩ : ∃ o, out (wk (rd h16 mem) h16.length root page kind user) = o := ⟨_, rfl⟩
  have hal3 : ats.length ≤ 3 := wk_len' ho
  obtain ⟨pn, hpn⟩ : ∃ n, ats.length = n := ⟨_, rfl⟩
  obtain ⟨un, hun⟩ : ∃ b, (!(ats.any (unused h16 mem))) = b := ⟨_, rfl⟩
  obtain ⟨al, hal⟩ : ∃ b, allIn h16 mem ats = b := ⟨_, rfl⟩
  obtain ⟨m2, hm2⟩ : ∃ m, (if al then markMem h16 ats wt mem else mem) = m := ⟨_, rfl⟩
  have h128' : m2.length = 128 := by
    rw [← hm2]; split
    · unfold markMem; rw [markTo_len, h128]
    · exact h128
  have hw : ∀ W p fb, GM W p fb h16 16 mem → EC W → Calls Tryd.prog 13 #[.pointer (some ⟨p, 0, none⟩), .int .i64 root, .int .i64 page, .int .i64 kind, .bool user] W
      fun e w' => Below W.heap.size W w' ∧ ∃ a c, e = .returned (.tuple #[.agg #[.slice a pn c, .int .i64 g0, .bool rt.w, .bool rt.u, .bool rt.x, .bool lg, .bool pd], .int .i64 h, .int .i64 k]) ∧ Sl w' a ats := fun W p fb M E => by
    have := gm_walk M E root page kind user _ h k ho
    dsimp only at this
    rw [hpn] at this; exact this
  have hrw : ∀ W p wb, RM W p wb h16 16 mem → Calls Tryd.prog 26 #[.pointer (some ⟨p, 0, none⟩), .int .i64 root, .int .i64 page, .int .i64 kind, .bool user] W
      fun e w' => Below W.heap.size W w' ∧ ∃ a c, e = .returned (.tuple #[.agg #[.slice a pn c, .int .i64 g0, .bool rt.w, .bool rt.u, .bool rt.x, .bool lg, .bool pd], .int .i64 h, .int .i64 k]) ∧ Sl w' a ats := fun W p wb M => by
    have := rwalk_any W p wb 16 h16 mem M root page kind user
    rw [ho] at this
    unfold WPost at this
    dsimp only at this
    rw [hpn] at this; exact this
  have hs : ∀ W a a' c c', Sl W a ats → Sl W a' ats → Calls Tryd.prog 14 #[.agg #[.slice a pn c, .int .i64 g0, .bool rt.w, .bool rt.u, .bool rt.x, .bool lg, .bool pd], .agg #[.slice a' pn c', .int .i64 g0, .bool rt.w, .bool rt.u, .bool rt.x, .bool lg, .bool pd]] W
      fun e w' => e = .returned (.bool true) ∧ Below W.heap.size W w' := fun W a a' c c' h1 h2 => by
    have := same_any W a a' c c' ⟨ats, g0, rt, lg, pd⟩ ⟨ats, g0, rt, lg, pd⟩ h1 h2 (by dsimp only; omega) (by dsimp only; omega)
    dsimp only at this
    rw [hpn] at this
    simpa using this
  have hmd : ∀ W p fb a c, GM W p fb h16 16 mem → Sl W a ats → Calls Tryd.prog 27 #[.pointer (some ⟨p, 0, none⟩), .agg #[.slice a pn c, .int .i64 g0, .bool rt.w, .bool rt.u, .bool rt.x, .bool lg, .bool pd]] W
      fun e w' => e = .returned (.bool un) ∧ Below W.heap.size W w' := fun W p fb a c M hs => by
    have := marked_any W p fb 16 h16 mem a ⟨ats, g0, rt, lg, pd⟩ c M hs (by dsimp only; omega)
    dsimp only at this
    rw [hun, hpn] at this; exact this
  have hrmd : ∀ W p fb a c, RM W p fb h16 16 mem → Sl W a ats → Calls Tryd.prog 28 #[.pointer (some ⟨p, 0, none⟩), .agg #[.slice a pn c, .int .i64 g0, .bool rt.w, .bool rt.u, .bool rt.x, .bool lg, .bool pd]] W
      fun e w' => e = .returned (.bool un) ∧ Below W.heap.size W w' := fun W p fb a c M hs => by
    have := rmarked_any W p fb 16 h16 mem a ⟨ats, g0, rt, lg, pd⟩ c M hs (by dsimp only; omega)
    dsimp only at this
    rw [hun, hpn] at this; exact this
  have hmk : ∀ W p fb a c, GM W p fb h16 16 mem → Sl W a ats → Calls Tryd.prog 29 #[.pointer (some ⟨p, 0, none⟩), .agg #[.slice a pn c, .int .i64 g0, .bool rt.w, .bool rt.u, .bool rt.x, .bool lg, .bool pd], .bool wt] W
      fun e w' => e = .returned (.bool al) ∧ GM w' p fb h16 16 m2 ∧ Kept W.heap.size (fun k => k = fb) W w' := fun W p fb a c M hs => by
    have := mark_any W p fb 16 h16 mem a ⟨ats, g0, rt, lg, pd⟩ c wt M hs (by dsimp only; omega)
    dsimp only at this
    rw [hal, hm2, hpn] at this; exact this
  have hrmk : ∀ W p fb a c, RM W p fb h16 16 mem → Sl W a ats → Calls Tryd.prog 30 #[.pointer (some ⟨p, 0, none⟩), .agg #[.slice a pn c, .int .i64 g0, .bool rt.w, .bool rt.u, .bool rt.x, .bool lg, .bool pd], .bool wt] W
      fun e w' => e = .returned (.bool al) ∧ RM w' p fb h16 16 m2 ∧ Kept W.heap.size (fun k => k = fb) W w' := fun W p fb a c M hs => by
    have := rmark_any W p fb 16 h16 mem a ⟨ats, g0, rt, lg, pd⟩ c wt M hs (by dsimp only; omega)
    dsimp only at this
    rw [hal, hm2, hpn] at this; exact this
  have hall : ∀ W p fb, GM W p fb h16 16 m2 → Calls Tryd.prog 32 #[.pointer (some ⟨p, 0, none⟩)] W
      fun e w' => (∃ v, e = .returned v ∧ Wd w' v m2) ∧ Below W.heap.size W w' := fun W p fb M => all_words W p fb m2 M h128'
  have hrall : ∀ W p fb, RM W p fb h16 16 m2 → Calls Tryd.prog 33 #[.pointer (some ⟨p, 0, none⟩)] W
      fun e w' => (∃ v, e = .returned v ∧ Wd w' v m2) ∧ Below W.heap.size W w' := fun W p fb M => rall_words W p fb m2 M h128'
  have hsw : ∀ W u v, Wd W u m2 → Wd W v m2 → Calls Tryd.prog 31 #[u, v] W
      fun e w' => e = .returned (.bool true) ∧ Below W.heap.size W w' := fun W u v hu hv => by
    have := same_words W u v m2 m2 hu hv h128' h128'
    simpa using this
  rw [hl] at hm hpl ⊢
  rw [hmem] at hm hpl
  have HW := Lib.hid hw
  have HRW := Lib.hid hrw
  have HS := Lib.hid hs
  have HMd := Lib.hid hmd
  have HRMd := Lib.hid hrmd
  have HMk := Lib.hid hmk
  have HRMk := Lib.hid hrmk
  have HAl := Lib.hid hall
  have HRAl := Lib.hid hrall
  have HSw := Lib.hid hsw
  have HH := Lib.hid hd
  have HM := Lib.hid hm
  have HPl := Lib.hid hpl
  have HG := Lib.hid hg
  have hg0 := lt_of_cell hg
  have HG0 := Lib.hid hg0
  clear hd hm hpl hg hw hrw hs hmd hrmd hmk hrmk hall hrall hsw ho hl hmem hlen hp hpn hal3 hun hal hm2 h128 h128' hg0
  by_cases h600 : (600 : Int) < (len : Int)
  · go_enter Tryd.func8, Tryd.ntmps8
    go_wp2_with (first
      | (go_at_call 11; (with_reducible refine HH.out.mono ?_); rintro e W0 ⟨rfl, b0⟩)
      | (go_at_call 12; (with_reducible refine (HM.out _ b0).mono ?_); rintro e W1 ⟨⟨p, fb, rfl, M1, q1, q2⟩, b1⟩))
    go_ret
    exact ⟨rfl, b0.trans (b1.mono b0.size)⟩
  · have h600' : decide ((600 : Int) < (len : Int)) = false := by rw [decide_eq_false_iff_not]; exact h600
    clear h600
    go_enter Tryd.func8, Tryd.ntmps8
    go_wp2_with (first
      | (go_at_call 11; (with_reducible refine HH.out.mono ?_); rintro e W0 ⟨rfl, b0⟩)
      | (go_at_call 12; (with_reducible refine (HM.out _ b0).mono ?_); rintro e W1 ⟨⟨p, fb, rfl, M1, q1, q2⟩, b1⟩; have A1 := b0.trans (b1.mono b0.size); have f1 := Nat.le_trans b0.size q2; clear q1 q2 b0)
      | (go_at_call 25; (with_reducible refine (HPl.out _ A1).mono ?_); rintro e W2 ⟨⟨rp, wb, rfl, R2, r1, r2⟩, b2⟩; have A2 := A1.trans (b2.mono A1.size); have M2 := M1.past b2; have E2 := HG.out.past A2; have f2 := Nat.le_trans A1.size r2; clear r1 r2)
      | (go_at_call 13; (with_reducible refine (HW.out W2 _ _ M2 E2).mono ?_); rintro e W3 ⟨b3, a3, c3, rfl, s3⟩; have A3 := A2.trans (b3.mono A2.size); have M3 := M2.past b3; have R3 := R2.past b3; have P3 := Blk.new W3 31 [.slice a3 pn c3, .int .i64 g0, .bool rt.w, .bool rt.u, .bool rt.x, .bool lg, .bool pd])
      | (go_at_call 26; (with_reducible refine (HRW.out _ _ _ (R3.past (bal _ _))).mono ?_); rintro e W4 ⟨b4, a4, c4, rfl, s4⟩; have B4 := step b4; have Q4 := Blk.new W4 31 [.slice a4 pn c4, .int .i64 g0, .bool rt.w, .bool rt.u, .bool rt.x, .bool lg, .bool pd]))
    have bn := bal W4 (.cells #[.slice a4 pn c4, .int .i64 g0, .bool rt.w, .bool rt.u, .bool rt.x, .bool lg, .bool pd] 31)
    have M5 := (M3.past B4).past bn
    have R5 := (R3.past B4).past bn
    have A4 := A3.trans (B4.mono A3.size)
    have A5 := A4.trans (bn.mono A4.size)
    have P5 := (P3.past b4).past bn
    have s5 := (s3.past B4).past bn
    have u5 := s4.past bn
    obtain ⟨tp, htp⟩ : ∃ t, W3.heap.size = t := ⟨_, rfl⟩
    obtain ⟨tq, htq⟩ : ∃ t, W4.heap.size = t := ⟨_, rfl⟩
    obtain ⟨W5, hW5⟩ : ∃ W, W4.alloc (.cells #[.slice a4 pn c4, .int .i64 g0, .bool rt.w, .bool rt.u, .bool rt.x, .bool lg, .bool pd] 31) = W := ⟨_, rfl⟩
    rw [show (W4.alloc (.cells ([.slice a4 pn c4, .int .i64 g0, .bool rt.w, .bool rt.u, .bool rt.x, .bool lg, .bool pd] : List Value).toArray 31)) = W5 from hW5, htq] at Q4
    rw [hW5] at M5 R5 A5 P5 s5 u5
    rw [htp] at P5
    rw [hW5, htp, htq]
    clear hW5 htp htq M1 M2 M3 R2 R3 A1 A2 A3 A4 E2 P3 s3 s4 b1 b2 b3 b4 B4 bn
    have px0 := P5.cell (k := 0) rfl
    have px1 := P5.cell (k := 1) rfl
    have px2 := P5.cell (k := 2) rfl
    have px3 := P5.cell (k := 3) rfl
    have px4 := P5.cell (k := 4) rfl
    have px5 := P5.cell (k := 5) rfl
    have px6 := P5.cell (k := 6) rfl
    have pxl := P5.lt
    have qx0 := Q4.cell (k := 0) rfl
    have qx1 := Q4.cell (k := 1) rfl
    have qx2 := Q4.cell (k := 2) rfl
    have qx3 := Q4.cell (k := 3) rfl
    have qx4 := Q4.cell (k := 4) rfl
    have qx5 := Q4.cell (k := 5) rfl
    have qx6 := Q4.cell (k := 6) rfl
    have qxl := Q4.lt
    have HM5 := Lib.hid M5
    have HR5 := Lib.hid R5
    have HA5 := Lib.hid A5
    have HP5 := Lib.hid P5
    have HQ5 := Lib.hid Q4
    have Hs5 := Lib.hid s5
    have Hu5 := Lib.hid u5
    clear M5 R5 A5 P5 Q4 s5 u5
    go_region_held3 (fun w' => w'.cell? ⟨tp, 0, none⟩ = some (.slice a3 pn c3) ∧ w'.cell? ⟨tp, 1, none⟩ = some (.int .i64 g0) ∧ w'.cell? ⟨tp, 2, none⟩ = some (.bool rt.w) ∧ w'.cell? ⟨tp, 3, none⟩ = some (.bool rt.u) ∧ w'.cell? ⟨tp, 4, none⟩ = some (.bool rt.x) ∧ w'.cell? ⟨tp, 5, none⟩ = some (.bool lg) ∧ w'.cell? ⟨tp, 6, none⟩ = some (.bool pd) ∧ w'.cell? ⟨tq, 0, none⟩ = some (.slice a4 pn c4) ∧ w'.cell? ⟨tq, 1, none⟩ = some (.int .i64 g0) ∧ w'.cell? ⟨tq, 2, none⟩ = some (.bool rt.w) ∧ w'.cell? ⟨tq, 3, none⟩ = some (.bool rt.u) ∧ w'.cell? ⟨tq, 4, none⟩ = some (.bool rt.x) ∧ w'.cell? ⟨tq, 5, none⟩ = some (.bool lg) ∧ w'.cell? ⟨tq, 6, none⟩ = some (.bool pd)) (go_keep) (first
      | (go_at_call 14; (with_reducible refine (HS.out _ _ _ _ _ (Hs5.out.past (Below.refl _ W5).drew) (Hu5.out.past (Below.refl _ W5).drew)).mono ?_); rintro e W6 ⟨rfl, b6⟩; have q6 := (Below.refl W5.heap.size W5).drew.trans b6; have P6 := HP5.out.past q6; have Q6 := HQ5.out.past q6; have p60 := P6.cell (k := 0) rfl; have p61 := P6.cell (k := 1) rfl; have p62 := P6.cell (k := 2) rfl; have p63 := P6.cell (k := 3) rfl; have p64 := P6.cell (k := 4) rfl; have p65 := P6.cell (k := 5) rfl; have p66 := P6.cell (k := 6) rfl; have p6l := P6.lt; have q6c0 := Q6.cell (k := 0) rfl; have q6c1 := Q6.cell (k := 1) rfl; have q6c2 := Q6.cell (k := 2) rfl; have q6c3 := Q6.cell (k := 3) rfl; have q6c4 := Q6.cell (k := 4) rfl; have q6c5 := Q6.cell (k := 5) rfl; have q6c6 := Q6.cell (k := 6) rfl; have q6cl := Q6.lt; clear P6 Q6)
      | (go_at_call 27; (with_reducible refine (HMd.out _ _ _ _ _ (HM5.out.past q6) (Hs5.out.past q6)).mono ?_); rintro e W7 ⟨rfl, b7⟩; have q7 := q6.trans (b7.mono q6.size); have P7 := HP5.out.past q7; have Q7 := HQ5.out.past q7; have p70 := P7.cell (k := 0) rfl; have p71 := P7.cell (k := 1) rfl; have p72 := P7.cell (k := 2) rfl; have p73 := P7.cell (k := 3) rfl; have p74 := P7.cell (k := 4) rfl; have p75 := P7.cell (k := 5) rfl; have p76 := P7.cell (k := 6) rfl; have p7l := P7.lt; have q7c0 := Q7.cell (k := 0) rfl; have q7c1 := Q7.cell (k := 1) rfl; have q7c2 := Q7.cell (k := 2) rfl; have q7c3 := Q7.cell (k := 3) rfl; have q7c4 := Q7.cell (k := 4) rfl; have q7c5 := Q7.cell (k := 5) rfl; have q7c6 := Q7.cell (k := 6) rfl; have q7cl := Q7.lt; clear P7 Q7)
      | (go_at_call 28; (with_reducible refine (HRMd.out _ _ _ _ _ (HR5.out.past q7) (Hu5.out.past q7)).mono ?_); rintro e W8 ⟨rfl, b8⟩; have q8 := q7.trans (b8.mono q7.size); have P8 := HP5.out.past q8; have Q8 := HQ5.out.past q8; have p80 := P8.cell (k := 0) rfl; have p81 := P8.cell (k := 1) rfl; have p82 := P8.cell (k := 2) rfl; have p83 := P8.cell (k := 3) rfl; have p84 := P8.cell (k := 4) rfl; have p85 := P8.cell (k := 5) rfl; have p86 := P8.cell (k := 6) rfl; have p8l := P8.lt; have q8c0 := Q8.cell (k := 0) rfl; have q8c1 := Q8.cell (k := 1) rfl; have q8c2 := Q8.cell (k := 2) rfl; have q8c3 := Q8.cell (k := 3) rfl; have q8c4 := Q8.cell (k := 4) rfl; have q8c5 := Q8.cell (k := 5) rfl; have q8c6 := Q8.cell (k := 6) rfl; have q8cl := Q8.lt; clear P8 Q8))
    go_wp2_with (first
      | (go_at_call 29; (with_reducible refine (HMk.out _ _ _ _ _ (HM5.out.past q8) (Hs5.out.past q8)).mono ?_); rintro e W9 ⟨rfl, M9, K9⟩; have M8 := HM5.out.past q8; have R9 := M8.keptRM (HR5.out.past q8) K9; have Q9 := M8.keptB (HQ5.out.past q8) (by decide) K9; have u9 := M8.keptS (Hu5.out.past q8) K9; have A8 := HA5.out.trans (q8.mono HA5.out.size); have A9 := A8.trans ((K9.mono (B' := w.heap.size) (S' := fun k => k = fb) A8.size (fun _ _ h => h)).below (fun k hk e => by omega)); have q9c0 := Q9.cell (k := 0) rfl; have q9c1 := Q9.cell (k := 1) rfl; have q9c2 := Q9.cell (k := 2) rfl; have q9c3 := Q9.cell (k := 3) rfl; have q9c4 := Q9.cell (k := 4) rfl; have q9c5 := Q9.cell (k := 5) rfl; have q9c6 := Q9.cell (k := 6) rfl; have q9cl := Q9.lt; clear M8 Q9 A8)
      | (go_at_call 30; (with_reducible refine (HRMk.out _ _ _ _ _ R9 u9).mono ?_); rintro e W10 ⟨rfl, R10, K10⟩; have M10 := R9.keptGM M9 K10; have A10 := A9.trans ((K10.mono (B' := w.heap.size) (S' := fun k => k = wb) A9.size (fun _ _ h => h)).below (fun k hk e => by omega)))
      | (go_at_call 32; (with_reducible refine (HAl.out _ _ _ M10).mono ?_); rintro e W11 ⟨⟨v11, rfl, d11⟩, b11⟩; have R11 := R10.past b11; have A11 := A10.trans (b11.mono A10.size))
      | (go_at_call 33; (with_reducible refine (HRAl.out _ _ _ R11).mono ?_); rintro e W12 ⟨⟨v12, rfl, d12⟩, b12⟩; have d12' := d11.past b12; have A12 := A11.trans (b12.mono A11.size))
      | (go_at_call 31; (with_reducible refine (HSw.out _ _ _ d12' d12).mono ?_); rintro e W13 ⟨rfl, b13⟩))
    go_ret
    exact ⟨rfl, A12.trans (b13.mono A12.size)⟩
end Go.Proofs.YtlldbfpccdmclaaDoor
