/- The law WalkRoots: the walk. -/
import Derived.Test.YtlldbfpccdmclaaDoorHead
namespace Go.Proofs.YtlldbfpccdmclaaDoor
open Go.RowKit

theorem rd_out {mem : List Nat} {g : Int} (h : ¬ (0 ≤ g ∧ g < 16)) (i : Int) : rd h16 mem g i = none := by
  unfold rd place
  rw [if_neg (by rintro ⟨h1, h2, _⟩; exact h ⟨h1, h2⟩)]
  rfl
theorem wk_out {mem : List Nat} {root : Int} (h : ¬ (0 ≤ root ∧ root < 16)) (page kind : Int) (user : Bool) : out (wk (rd h16 mem) h16.length root page kind user) = (Path.none, 3, 0) := by
  have e : stepsFrom (rd h16 mem) page (fcode kind user) 3 root = [stepAt (rd h16 mem) page (fcode kind user) 3 root] := by
    have : (stepAt (rd h16 mem) page (fcode kind user) (2 + 1) root).er = some (3, 0) := by simp [stepAt, rd_out h]
    rw [stepsFrom, this]; simp
  unfold wk wkEnd
  rw [e]
  simp [stepAt, rd_out h, out]
theorem stepsFrom_len (get : Int → Int → Option Nat) (page : Int) (cd : Bool → Bool → Int) : ∀ (n : Nat) (g : Int), (stepsFrom get page cd n g).length ≤ n := by
  intro n
  induction n with
  | zero => intro g; simp [stepsFrom]
  | succ n ih =>
    intro g
    simp only [stepsFrom]
    split
    · simp
    · simp only [List.length_cons]; have := ih ((stepAt get page cd (n + 1) g).e.f : Int); omega
theorem wk_cases (get : Int → Int → Option Nat) (frames : Nat) (root page kind : Int) (user : Bool) :
    (∃ e, wk get frames root page kind user = .error e) ∨ (∃ p, wk get frames root page kind user = .ok p ∧ p.ats = (foldP (stepsFrom get page (fcode kind user) 3 root)).ats) := by
  obtain ⟨q, s, hq⟩ := stepsFrom_ne get page (fcode kind user) 2 root
  cases he : s.er with
  | some e => exact .inl ⟨e, wkEnd_err hq he⟩
  | none =>
    rw [wk, wkEnd_fin hq he]
    unfold fin
    by_cases h1 : may (foldP (stepsFrom get page (fcode kind user) (2 + 1) root)).r kind user = false
    · rw [if_pos h1]; exact .inl ⟨_, rfl⟩
    · rw [if_neg h1]
      by_cases h2 : (frames : Int) ≤ (if (foldP (stepsFrom get page (fcode kind user) (2 + 1) root)).large then (foldP (stepsFrom get page (fcode kind user) (2 + 1) root)).g + ix page 1 else (foldP (stepsFrom get page (fcode kind user) (2 + 1) root)).g)
      · rw [if_pos h2]; exact .inl ⟨_, rfl⟩
      · rw [if_neg h2]; exact .inr ⟨_, rfl, rfl⟩
theorem wk_len {get : Int → Int → Option Nat} {frames : Nat} {root page kind : Int} {user : Bool} {P : Path} {h k : Int} (ho : out (wk get frames root page kind user) = (P, h, k)) : P.ats.length ≤ 3 := by
  rcases wk_cases get frames root page kind user with ⟨e, he⟩ | ⟨p, hp, ha⟩
  · rw [he] at ho; simp only [out, Prod.mk.injEq] at ho; rw [← ho.1]; simp [Path.none]
  · rw [hp] at ho; simp only [out, Prod.mk.injEq] at ho; rw [← ho.1, ha, foldP_len]; exact stepsFrom_len _ _ _ _ _

set_option maxRecDepth 100000 in
set_option maxHeartbeats 4000000 in
theorem roots_walk (w : World) (hg : EC w) (a : Option Addr) (c : Nat) (l : List (Int × Int × Nat)) (hp : Ps w a l) (hlen : l.length ≤ 9223372036854775807) (root page kind : Int) (user : Bool) :
    Calls Tryd.prog 6 #[.slice a l.length c, .int .i64 root, .int .i64 page, .int .i64 kind, .bool user] w fun e w' => e = .returned (.bool true) ∧ Below w.heap.size w w' := by
  have hh := head_any w hg
  have hm := fun W (hb : Below w.heap.size w W) => made_any W a c l (hp.below hb) hlen
  obtain ⟨len, hl⟩ : ∃ len, l.length = len := ⟨_, rfl⟩
  obtain ⟨mem, hmem⟩ : ∃ mem, puts l = mem := ⟨_, rfl⟩
  obtain ⟨⟨P, h, k⟩, ho⟩ : ∃ o, out (wk (rd h16 mem) h16.length root page kind user) = o := ⟨_, rfl⟩
  obtain ⟨pn, hpn⟩ : ∃ n, P.ats.length = n := ⟨_, rfl⟩
  have hout : ¬ (0 ≤ root ∧ root < 16) → h = 3 ∧ k = 0 ∧ pn = 0 := by
    intro hn
    rw [wk_out hn] at ho
    simp only [Prod.mk.injEq] at ho
    obtain ⟨rfl, rfl, rfl⟩ := ho
    exact ⟨rfl, rfl, by rw [← hpn]; rfl⟩
  have hw : ∀ W p fb, GM W p fb h16 16 mem → EC W → Calls Tryd.prog 13 #[.pointer (some ⟨p, 0, none⟩), .int .i64 root, .int .i64 page, .int .i64 kind, .bool user] W
      fun e w' => Below W.heap.size W w' ∧ ∃ a c, e = .returned (.tuple #[.agg #[.slice a pn c, .int .i64 P.g, .bool P.r.w, .bool P.r.u, .bool P.r.x, .bool P.large, .bool P.dirty], .int .i64 h, .int .i64 k]) ∧ Sl w' a P.ats := fun W p fb M E => hpn ▸ gm_walk M E root page kind user P h k ho
  have hpl : P.ats.length ≤ 1000 := by have := wk_len ho; omega
  have hs : ∀ W a a' c c', Sl W a P.ats → Sl W a' P.ats → Calls Tryd.prog 14 #[.agg #[.slice a pn c, .int .i64 P.g, .bool P.r.w, .bool P.r.u, .bool P.r.x, .bool P.large, .bool P.dirty], .agg #[.slice a' pn c', .int .i64 P.g, .bool P.r.w, .bool P.r.u, .bool P.r.x, .bool P.large, .bool P.dirty]] W
      fun e w' => e = .returned (.bool true) ∧ Below W.heap.size W w' := fun W a a' c c' h1 h2 => by
    have := same_any W a a' c c' P P h1 h2 hpl hpl
    rw [hpn] at this
    simpa using this
  rw [hl] at hm ⊢
  rw [hmem] at hm
  have HH := Lib.hid hh
  have HM := Lib.hid hm
  have HW := Lib.hid hw
  have HS := Lib.hid hs
  have HO := Lib.hid hout
  have HG := Lib.hid hg
  clear hh hm hw hs hout hl hmem hlen hp hpn hpl ho
  by_cases h600 : (600 : Int) < (len : Int)
  · go_enter Tryd.func6, Tryd.ntmps6
    go_wp2_with (first
      | (go_at_call 11; (with_reducible refine HH.out.mono ?_); rintro e W0 ⟨rfl, b0⟩)
      | (go_at_call 12; (with_reducible refine (HM.out _ b0).mono ?_); rintro e W1 ⟨⟨p, fb, rfl, M1, q1, q2⟩, b1⟩))
    go_ret
    exact ⟨rfl, b0.trans (b1.mono b0.size)⟩
  · by_cases hr : 0 ≤ root ∧ root < 16
    · obtain ⟨r0, r1⟩ := hr
      clear HO
      go_enter Tryd.func6, Tryd.ntmps6
      go_wp2_with (first
        | (go_at_call 11; (with_reducible refine HH.out.mono ?_); rintro e W0 ⟨rfl, b0⟩)
        | (go_at_call 12; (with_reducible refine (HM.out _ b0).mono ?_); rintro e W1 ⟨⟨p, fb, rfl, M1, q1, q2⟩, b1⟩; have A1 := b0.trans (b1.mono b0.size); have E1 := HG.out.past A1; clear q1 q2 b0 b1)
        | (go_at_call 13; (with_reducible refine (HW.out W1 _ _ M1 E1).mono ?_); rintro e W2 ⟨b2, a2, c2, rfl, s2⟩; have M2 := M1.past b2; have E2 := E1.past b2; have A2 := A1.trans (b2.mono A1.size))
        | (go_at_call 13; (with_reducible refine (HW.out _ _ _ (M2.past (bal _ _)) (E2.past (bal _ _))).mono ?_); rintro e W3 ⟨b3, a3, c3, rfl, s3⟩; have d3 := step b3; have A3 := A2.trans (d3.mono A2.size); have s2' := s2.past d3; have bq := (Blk.new W2 31 [.slice a2 pn c2, .int .i64 P.g, .bool P.r.w, .bool P.r.u, .bool P.r.x, .bool P.large, .bool P.dirty]).past b3; have x0 := bq.cell (k := 0) rfl; have x1 := bq.cell (k := 1) rfl; have x2 := bq.cell (k := 2) rfl; have x3 := bq.cell (k := 3) rfl; have x4 := bq.cell (k := 4) rfl; have x5 := bq.cell (k := 5) rfl; have x6 := bq.cell (k := 6) rfl; have lq := bq.lt)
        | (go_at_call 14; (with_reducible refine (HS.out _ _ _ _ _ (s2'.past (bal _ _)) (s3.past (bal _ _))).mono ?_); rintro e W4 ⟨rfl, b4⟩; have d4 := step b4; have y0 := (d4.cell (p := ⟨W2.heap.size, 0, none⟩) lq).trans x0; have A4 := A3.trans (d4.mono A3.size)))
      go_ret
      exact ⟨rfl, A4⟩
    · obtain ⟨rfl, rfl, rfl⟩ := HO.out hr
      have r2 : root < 0 ∨ 16 ≤ root := by omega
      clear HO hr
      rcases r2 with r2 | r2
      · go_enter Tryd.func6, Tryd.ntmps6
        go_wp2_with (first
          | (go_at_call 11; (with_reducible refine HH.out.mono ?_); rintro e W0 ⟨rfl, b0⟩)
          | (go_at_call 12; (with_reducible refine (HM.out _ b0).mono ?_); rintro e W1 ⟨⟨p, fb, rfl, M1, q1, q2⟩, b1⟩; have A1 := b0.trans (b1.mono b0.size); have E1 := HG.out.past A1; clear q1 q2 b0 b1)
          | (go_at_call 13; (with_reducible refine (HW.out W1 _ _ M1 E1).mono ?_); rintro e W2 ⟨b2, a2, c2, rfl, s2⟩; have M2 := M1.past b2; have E2 := E1.past b2; have A2 := A1.trans (b2.mono A1.size))
          | (go_at_call 13; (with_reducible refine (HW.out _ _ _ (M2.past (bal _ _)) (E2.past (bal _ _))).mono ?_); rintro e W3 ⟨b3, a3, c3, rfl, s3⟩; have d3 := step b3; have A3 := A2.trans (d3.mono A2.size); have s2' := s2.past d3; have bq := (Blk.new W2 31 [.slice a2 0 c2, .int .i64 P.g, .bool P.r.w, .bool P.r.u, .bool P.r.x, .bool P.large, .bool P.dirty]).past b3; have x0 := bq.cell (k := 0) rfl; have x1 := bq.cell (k := 1) rfl; have x2 := bq.cell (k := 2) rfl; have x3 := bq.cell (k := 3) rfl; have x4 := bq.cell (k := 4) rfl; have x5 := bq.cell (k := 5) rfl; have x6 := bq.cell (k := 6) rfl; have lq := bq.lt)
          | (go_at_call 14; (with_reducible refine (HS.out _ _ _ _ _ (s2'.past (bal _ _)) (s3.past (bal _ _))).mono ?_); rintro e W4 ⟨rfl, b4⟩; have d4 := step b4; have y0 := (d4.cell (p := ⟨W2.heap.size, 0, none⟩) lq).trans x0; have A4 := A3.trans (d4.mono A3.size)))
        go_ret
        exact ⟨rfl, A4⟩
      · go_enter Tryd.func6, Tryd.ntmps6
        go_wp2_with (first
          | (go_at_call 11; (with_reducible refine HH.out.mono ?_); rintro e W0 ⟨rfl, b0⟩)
          | (go_at_call 12; (with_reducible refine (HM.out _ b0).mono ?_); rintro e W1 ⟨⟨p, fb, rfl, M1, q1, q2⟩, b1⟩; have A1 := b0.trans (b1.mono b0.size); have E1 := HG.out.past A1; clear q1 q2 b0 b1)
          | (go_at_call 13; (with_reducible refine (HW.out W1 _ _ M1 E1).mono ?_); rintro e W2 ⟨b2, a2, c2, rfl, s2⟩; have M2 := M1.past b2; have E2 := E1.past b2; have A2 := A1.trans (b2.mono A1.size))
          | (go_at_call 13; (with_reducible refine (HW.out _ _ _ (M2.past (bal _ _)) (E2.past (bal _ _))).mono ?_); rintro e W3 ⟨b3, a3, c3, rfl, s3⟩; have d3 := step b3; have A3 := A2.trans (d3.mono A2.size); have s2' := s2.past d3; have bq := (Blk.new W2 31 [.slice a2 0 c2, .int .i64 P.g, .bool P.r.w, .bool P.r.u, .bool P.r.x, .bool P.large, .bool P.dirty]).past b3; have x0 := bq.cell (k := 0) rfl; have x1 := bq.cell (k := 1) rfl; have x2 := bq.cell (k := 2) rfl; have x3 := bq.cell (k := 3) rfl; have x4 := bq.cell (k := 4) rfl; have x5 := bq.cell (k := 5) rfl; have x6 := bq.cell (k := 6) rfl; have lq := bq.lt)
          | (go_at_call 14; (with_reducible refine (HS.out _ _ _ _ _ (s2'.past (bal _ _)) (s3.past (bal _ _))).mono ?_); rintro e W4 ⟨rfl, b4⟩; have d4 := step b4; have y0 := (d4.cell (p := ⟨W2.heap.size, 0, none⟩) lq).trans x0; have A4 := A3.trans (d4.mono A3.size)))
        go_ret
        exact ⟨rfl, A4⟩
end Go.Proofs.YtlldbfpccdmclaaDoor
