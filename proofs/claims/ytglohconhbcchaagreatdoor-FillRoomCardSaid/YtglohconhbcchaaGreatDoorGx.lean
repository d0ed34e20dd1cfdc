/- A guard's Reach: the closures; kids. A guard's Reach. A guard's Reach, whole. A guard's Reach, at all arguments. A guard's Reach, when there is a top page. -/
import Derived.Test.YtglohconhbcchaaGreatDoorGf
namespace Go.Proofs.YtglohconhbcchaaGreatDoor
open Go.RowKit Go.Shelf Go.Maps

/-- a list that is being made, in a block that points at it -/
def outb (ob : Nat) (v : Value) (l : List Int) : Thing where
  own k := k = ob ∨ v.ownBlock = some k
  so w := Blk w ob 43 [v] ∧ RowI w v l
  lt _ h k hk := by
    rcases hk with e | e
    · subst e; exact h.1.lt
    · exact h.2.lt' k e
  keep _ _ h _ hk := ⟨h.1.of_heap (hk _ (.inl rfl)), h.2.keep fun b e => hk b (.inr e)⟩
theorem span_succ (a n : Nat) : span a (n + 1) = span a n ++ [((a + n : Nat) : Int)] := by
  unfold span; rw [List.range_succ, List.map_append]; rfl
theorem span_len (a n : Nat) : (span a n).length = n := by unfold span; simp
set_option maxRecDepth 100000 in
set_option maxHeartbeats 2000000 in
theorem add_h {w0 w : World} {A : GAd} {P : Pm} {V : GVl} {G : GS} {ts : List Thing} {ob : Nat} {v : Value} {l : List Int} (H : HG w0 w A P V G (outb ob v l :: ts)) (a n : Nat) (ha : a ≤ 100000) (hn : n ≤ 1000) (hl : l.length ≤ 100000) :
    Calls Tryz.prog 209 #[.int .i64 (a : Int), .int .i64 (n : Int), .pointer (some ⟨ob, 0, none⟩)] w
      fun e w' => (∃ r, e = .returned r) ∧ ∃ v', HG w0 w' A P V G (outb ob v' (l ++ span a n) :: ts) := by
  obtain ⟨i0, hi, hz0, hz1, hz2⟩ := info_parts info_int
  have HH := Lib.hid H
  have H1 := Lib.hid hi
  have HZ0 := Lib.hid hz0
  have HZ1 := Lib.hid hz1
  have HZ2 := Lib.hid hz2
  clear H hi hz0 hz1 hz2
  go_enter Tryz.func209, Tryz.ntmps209
  go_wp2_with fail
  go_loopw [5, 7] (fun _ i wr => ∃ k : Nat, k ≤ n ∧ i = .int .i64 k ∧ ∃ v', HG w0 wr A P V G (outb ob v' (l ++ span a k) :: ts)) (fun _ i _ => n - (intOf i).toNat)
  case atStart => exact ⟨0, by omega, rfl, v, by rw [show span a 0 = [] from rfl, List.append_nil]; exact HH.out⟩
  case round =>
    obtain ⟨k, hk, rfl, v', H2⟩ := hrel
    by_cases hkn : k < n
    · have ho := H2.top
      obtain ⟨c0, hrow⟩ := ho
      have d0 := c0.cell (k := 0) rfl
      have lo := c0.lt
      have hone := hrow.one
      have hlen : (l ++ span a k).length ≤ 101000 := by rw [List.length_append, span_len]; omega
      have hsp := span_succ a k
      obtain ⟨m, hm⟩ : ∃ m, l ++ span a k = m := ⟨_, rfl⟩
      have hnext : l ++ span a (k + 1) = m ++ [(a : Int) + k] := by rw [hsp, ← List.append_assoc, hm]; simp
      rw [hm] at H2 hrow hlen
      obtain ⟨ln, hln⟩ : ∃ n, m.length = n := ⟨_, rfl⟩
      rw [hln] at hlen
      have HLn := Lib.hid hln
      have HR := Lib.hid hrow
      have HC0 := Lib.hid c0
      have HH2 := Lib.hid H2
      have HNx := Lib.hid hnext
      clear hrow c0 H2 hnext hsp hm hln
      go_wp2_with (at_builtin; refine wpList_append_own_at _ rfl _ _ 43 rfl 0 3 i0 _ 1 8 Tryz.underlying43 H1.out HZ0.out HZ1.out HZ2.out rfl (by decide) _ _ _ rfl (World.ownsRow.alloc (show wr.ownsRow 0 3 1 v' ln (m.map valI) from HLn.out ▸ HR.out) _) ⟨wr.heap.size, 0, none⟩ 1 1 [.int .i64 ((a : Int) + k)] rfl rfl (cell_one_new _ _ _) (fun x hx => by simp at hx; subst hx; rfl) (by unfold maxLen; omega) (by omega) (by simp) ?_; intro v3 w3 hown' hgrow3 hnil3 hat3; obtain ⟨g', cap', rfl⟩ := ownsRow_succ hown'; have HO3 := Lib.hid hown'; have HG3 := Lib.hid hgrow3; have HA3 := Lib.hid hat3; have P3 := (HC0.out.alloc (.cells #[.int .i64 ((a : Int) + k)] 3)).grownRow (World.ownsRow.alloc (show wr.ownsRow 0 3 1 v' ln (m.map valI) from HLn.out ▸ HR.out) _) (by decide) hgrow3; have p30 := P3.cell (k := 0) rfl; have p3f := fun k => P3.free k; have p3l := P3.lt; have HP3 := Lib.hid P3; clear hown' hgrow3 hnil3 hat3 P3)
      go_roundw
      case rel =>
        refine ⟨k + 1, by omega, by simp, .slice (some ⟨g', 0, none⟩) (ln + 1) cap', ?_⟩
        rw [HNx.out]
        have h := nrow_setO HO3.out HP3.out (by decide) 0 (.slice (some ⟨g', 0, none⟩) (ln + 1) cap')
        have hr : RowI (w3.setCell ⟨ob, 0, none⟩ (.slice (some ⟨g', 0, none⟩) (ln + 1) cap')) (.slice (some ⟨g', 0, none⟩) (ln + 1) cap') (m ++ [(a : Int) + k]) := by
          show World.ownsRow _ 0 3 1 _ (m ++ [(a : Int) + k]).length ((m ++ [(a : Int) + k]).map valI)
          rw [List.length_append, HLn.out, List.map_append]
          exact h
        have hk : Kept wr.heap.size (fun k => k = ob ∨ v'.ownBlock = some k) wr (w3.setCell ⟨ob, 0, none⟩ (.slice (some ⟨g', 0, none⟩) (ln + 1) cap')) := by
          have hg := HG3.out
          have hk0 : Kept wr.heap.size (fun k => k = ob ∨ v'.ownBlock = some k) wr w3 := ⟨hg.os, hg.tape, hg.output, Nat.le_trans (by simp) hg.size, fun k hk hs => (hg.block k (by simp; omega) (fun e => hs (.inr e.symm))).trans (Below.heap_alloc _ _ _ hk)⟩
          exact Kept.setCell (p := ⟨ob, 0, none⟩) hk0 (.inl (.inl rfl)) _
        exact Hold.step HH2.out 5 (outb ob (.slice (some ⟨g', 0, none⟩) (ln + 1) cap') (m ++ [(a : Int) + k])) rfl ⟨HP3.out.set 0 _, hr⟩ hk (fun b hb => by
          rcases hb with e | e
          · exact .inl (.inl e)
          · rcases HA3.out with h | h
            · exact .inl (.inr (h ▸ e))
            · rw [h] at e; cases e; exact .inr (by rw [World.size_alloc]; omega))
      case measure => simp [intOf]; omega
    · obtain rfl : k = n := by omega
      have HH2 := Lib.hid H2
      clear H2
      go_wp2
      refine bodyPost_end (results_none rfl _ _ _) rfl ⟨⟨_, rfl⟩, v', HH2.out⟩
set_option maxRecDepth 100000 in
set_option maxHeartbeats 2000000 in
/-- kids: a call for each child -/
theorem kids_any {w0 w : World} {A : GAd} {P : Pm} {V : GVl} {G : GS} (p : Int) (g : Nat) (lb : Array Value) (I : Nat → World → Prop) (h0 : I 0 w)
    (eg : ∀ args w, (callFunc g args).run Tryz.prog w = .ok (.enter g args) w)
    (hH : ∀ j W, I j W → ∃ ts, HG w0 W A P V G ts) (hpast : ∀ j W W', I j W → Below W.heap.size W W' → I j W')
    (hskip : ∀ (j : Nat) W, j < 8 → ((sslot G.s.ps p (j : Int)).getD slt0).kind ≠ 1 → I j W → I (j + 1) W)
    (hcall : ∀ (j : Nat) W, j < 8 → ((sslot G.s.ps p (j : Int)).getD slt0).kind = 1 → I j W → Calls Tryz.prog g (#[.int .i64 (j : Int), .int .i64 ((sslot G.s.ps p (j : Int)).getD slt0).dst] ++ lb) W fun e W' => (∃ r, e = .returned r) ∧ I (j + 1) W') :
    Calls Tryz.prog 210 #[.pointer (some ⟨A.dp, 0, none⟩), .int .i64 p, .func (.func g) #[] lb] w
      fun e w' => (∃ r, e = .returned r) ∧ I 8 w' := by
  have HH := Lib.hid hH
  have HP := Lib.hid hpast
  have HS := Lib.hid hskip
  have HC := Lib.hid hcall
  have HI0 := Lib.hid h0
  clear hH hpast hskip hcall h0
  go_enter Tryz.func210, Tryz.ntmps210
  go_wp2_with fail
  go_loopw [6, 7, 8, 9] (fun _ _ _ i wr => ∃ j : Nat, j ≤ 8 ∧ i = .int .i64 j ∧ I j wr) (fun _ _ _ i _ => 8 - (intOf i).toNat)
  case atStart => exact ⟨0, by omega, rfl, HI0.out⟩
  case round =>
    obtain ⟨j, hj, rfl, hI⟩ := hrel
    have HI := Lib.hid hI
    clear hI
    by_cases hj8 : j < 8
    · obtain ⟨ts, H⟩ := HH.out j wr HI.out
      have hjz : (j : Int) < 8 := by omega
      obtain ⟨o, ho⟩ : ∃ o, sslot G.s.ps p (j : Int) = o := ⟨_, rfl⟩
      have hst := sslot_any H.sx p (j : Int) o ho
      have hsk := fun W hW => HS.out j W hj8 hW
      have hca := fun W hW => HC.out j W hj8 hW
      rw [ho] at hsk hca
      obtain ⟨⟨xk, xd, ⟨xw, xu, xx⟩⟩, hxo⟩ : ∃ x, o.getD slt0 = x := ⟨_, rfl⟩
      rw [hxo] at hst hsk hca
      dsimp only at hst hsk hca
      obtain ⟨os, hos⟩ : ∃ b, o.isSome = b := ⟨_, rfl⟩
      rw [hos] at hst
      have D0 := H.dx.hdr
      have e2 := D0.cell (k := 2) rfl
      have le := D0.lt
      have HSt := Lib.hid hst
      have HSk := Lib.hid hsk
      have HCa := Lib.hid hca
      clear hst hsk hca H D0 ho hxo hos
      by_cases hk : xk = 1
      · subst hk
        go_wp2_with (first
          | (go_at_call 23; (with_reducible refine HSt.out.mono ?_); rintro e W7 ⟨rfl, b7⟩; have q7 := b7.trans ((bal W7 (.cells #[.int .i64 1, .int .i64 xd, .bool xw, .bool xu, .bool xx] 64)).mono b7.size))
          | ((with_reducible refine Calls.mono (HCa.out _ (by simp) (HP.out j _ _ HI.out q7)) ?_); rintro e W8 ⟨⟨r8, rfl⟩, h8⟩; have HI8 := Lib.hid h8; clear h8))
        go_roundw
        case rel => exact ⟨j + 1, by omega, by simp, HI8.out⟩
        case measure => simp [intOf]; omega
      · have f1 : (xk == 1) = false := beq_eq_false_iff_ne.2 hk
        go_wp2_with (go_at_call 23; (with_reducible refine HSt.out.mono ?_); rintro e W7 ⟨rfl, b7⟩; have q7 := b7.trans ((bal W7 (.cells #[.int .i64 xk, .int .i64 xd, .bool xw, .bool xu, .bool xx] 64)).mono b7.size))
        go_roundw
        case rel => exact ⟨j + 1, by omega, by simp, HSk.out _ hk (HP.out j _ _ HI.out q7)⟩
        case measure => simp [intOf]; omega
    · obtain rfl : j = 8 := by omega
      go_wp2
      refine bodyPost_end (results_none rfl _ _ _) rfl ⟨⟨_, rfl⟩, HI.out⟩
end Go.Proofs.YtglohconhbcchaaGreatDoor

namespace Go.Proofs.YtglohconhbcchaaGreatDoor
open Go.RowKit Go.Shelf Go.Maps

def addv (ob : Nat) : Value := .func (.func 209) #[] #[.pointer (some ⟨ob, 0, none⟩)]
def rbox (addB ib pb ob : Nat) (i p : Int) (ts : List Thing) : List Thing := box addB 120 [addv ob] :: box ib 3 [.int .i64 i] :: box pb 3 [.int .i64 p] :: ts
theorem i64_or_nat0 (a b : Nat) (ha : a < 2 ^ 62) (hb : b < 2 ^ 62) : bits .or .i64 (a : Int) (b : Int) = ((a ||| b : Nat) : Int) := by
  have hx : a ||| b < 2 ^ 62 := Nat.or_lt_two_pow ha hb
  show IntKind.i64.wrap ((BitVec.ofInt 64 (a : Int) ||| BitVec.ofInt 64 (b : Int)).toNat : Int) = _
  rw [BitVec.toNat_or, ofInt_u64 a (by omega), ofInt_u64 b (by omega)]
  rw [IntKind.wrap_i64]
  omega
theorem or_low (a b : Nat) (hb : b < 8) (ha : a < 4096) : bits .or .i64 ((a : Int) * 8) (b : Int) = (a : Int) * 8 + b := by
  have h := i64_or_nat0 (a * 8) b (by omega) (by omega)
  have e : a * 8 ||| b = a * 8 + b := by
    rw [show a * 8 = 2 ^ 3 * a by omega]
    exact (Nat.two_pow_add_eq_or_of_lt (i := 3) (b := b) (by omega) a).symm
  rw [e] at h
  rw [show ((a * 8 : Nat) : Int) = (a : Int) * 8 by omega] at h
  rw [h]; omega
set_option maxRecDepth 100000 in
set_option maxHeartbeats 2000000 in
theorem low_h {w0 w : World} {A : GAd} {P : Pm} {V : GVl} {G : GS} {ts : List Thing} {ob aB addB ib pb : Nat} {v : Value} {l : List Int} (a b i : Nat) (low p : Int) (H : HG w0 w A P V G (outb ob v l :: box aB 3 [.int .i64 (a : Int)] :: rbox addB ib pb ob i p ts)) (ha : a < 8) (hb : b < 8) (hi : i < 8) (hl : l.length ≤ 100000) :
    Calls Tryz.prog 212 #[.int .i64 (b : Int), .int .i64 low, .pointer (some ⟨pb, 0, none⟩), .pointer (some ⟨addB, 0, none⟩), .pointer (some ⟨aB, 0, none⟩), .pointer (some ⟨ib, 0, none⟩)] w
      fun e w' => (∃ r, e = .returned r) ∧ ∃ v', HG w0 w' A P V G (outb ob v' (l ++ reachL p i a ((b : Int), low)) :: box aB 3 [.int .i64 (a : Int)] :: rbox addB ib pb ob i p ts) := by
  have k1 : Blk w aB 3 [.int .i64 (a : Int)] := Hold.at H 6 rfl
  have k2 : Blk w addB 120 [addv ob] := Hold.at H 7 rfl
  have k3 : Blk w ib 3 [.int .i64 (i : Int)] := Hold.at H 8 rfl
  have k4 : Blk w pb 3 [.int .i64 p] := Hold.at H 9 rfl
  have c1 := k1.cell (k := 0) rfl
  have c2 := k2.cell (k := 0) rfl
  have c3 := k3.cell (k := 0) rfl
  have c4 := k4.cell (k := 0) rfl
  have l1 := k1.lt
  have l2 := k2.lt
  have l3 := k3.lt
  have l4 := k4.lt
  have hn : reachL p i a ((b : Int), low) = if low = p then span ((a * 8 + b) * 8 + i) 1 else [] := by unfold reachL; simp
  rw [hn]
  unfold addv at c2
  by_cases hp : low = p
  · subst hp
    rw [if_pos rfl]
    have ha1 := add_h H ((a * 8 + b) * 8 + i) 1 (by omega) (by omega) hl
    have o1 := or_low a b hb (by omega)
    have o2 := or_low (a * 8 + b) i hi (by omega)
    rw [show (((a * 8 + b) * 8 + i : Nat) : Int) = ((a : Int) * 8 + b) * 8 + i by omega] at ha1
    rw [show ((a * 8 + b : Nat) : Int) = (a : Int) * 8 + b by omega] at o2
    replace ha1 : Calls Tryz.prog 209 #[.int .i64 (((a : Int) * 8 + b) * 8 + i), .int .i64 1, .pointer (some ⟨ob, 0, none⟩)] w _ := ha1
    have HA := Lib.hid ha1
    clear ha1 H k1 k2 k3 k4 hn
    go_enter Tryz.func212, Tryz.ntmps212
    go_wp2_with ((with_reducible refine Calls.mono HA.out ?_); rintro e W1 ⟨⟨r1, rfl⟩, v1, h1⟩; have HH1 := Lib.hid h1; clear h1)
    refine bodyPost_end (results_none rfl _ _ _) rfl ⟨⟨_, rfl⟩, v1, HH1.out⟩
  · rw [if_neg hp, List.append_nil]
    have f1 : (low == p) = false := beq_eq_false_iff_ne.2 hp
    have HH := Lib.hid H
    clear H k1 k2 k3 k4 hn hp
    go_enter Tryz.func212, Tryz.ntmps212
    go_wp2_with fail
    refine bodyPost_end (results_none rfl _ _ _) rfl ⟨⟨_, rfl⟩, v, HH.out⟩
def kidsN (ps : List Pg) (p : Int) (n : Nat) : List (Int × Int) := (List.range n).filterMap fun (i : Nat) => let x := (sslot ps p (i : Int)).getD slt0; if x.kind = 1 then some ((i : Int), x.dst) else none
theorem kidsN_succ (ps : List Pg) (p : Int) (n : Nat) : kidsN ps p (n + 1) = kidsN ps p n ++ (if ((sslot ps p (n : Int)).getD slt0).kind = 1 then [((n : Int), ((sslot ps p (n : Int)).getD slt0).dst)] else []) := by
  unfold kidsN
  rw [List.range_succ, List.filterMap_append]
  congr 1
  simp only [List.filterMap_cons, List.filterMap_nil]
  split <;> simp_all
theorem kidsN_len (ps : List Pg) (p : Int) (n : Nat) : (kidsN ps p n).length ≤ n := by
  unfold kidsN
  exact Nat.le_trans (List.length_filterMap_le ..) (by simp)
theorem flat_len {α : Type} (f : α → List Int) (c : Nat) (h : ∀ a, (f a).length ≤ c) : ∀ l : List α, (l.flatMap f).length ≤ l.length * c
  | [] => by simp
  | a :: r => by
    have := flat_len f c h r
    have := h a
    rw [List.flatMap_cons, List.length_append, List.length_cons, Nat.add_mul]; omega
theorem reachL_len (p : Int) (i a : Nat) (b : Int × Int) : (reachL p i a b).length ≤ 1 := by
  unfold reachL; split
  · rw [span_len]; omega
  · simp
/-- the inner kids: below a middle page -/
theorem kids_low {w0 w : World} {A : GAd} {P : Pm} {V : GVl} {G : GS} {ts : List Thing} {ob aB addB ib pb : Nat} {v : Value} {l : List Int} (a i : Nat) (mid p : Int) (H : HG w0 w A P V G (outb ob v l :: box aB 3 [.int .i64 (a : Int)] :: rbox addB ib pb ob i p ts)) (ha : a < 8) (hi : i < 8) (hl : l.length ≤ 90000) :
    Calls Tryz.prog 210 #[.pointer (some ⟨A.dp, 0, none⟩), .int .i64 mid, .func (.func 212) #[] #[.pointer (some ⟨pb, 0, none⟩), .pointer (some ⟨addB, 0, none⟩), .pointer (some ⟨aB, 0, none⟩), .pointer (some ⟨ib, 0, none⟩)]] w
      fun e w' => (∃ r, e = .returned r) ∧ ∃ v', HG w0 w' A P V G (outb ob v' (l ++ (kids G.s.ps mid).flatMap (reachL p i a)) :: box aB 3 [.int .i64 (a : Int)] :: rbox addB ib pb ob i p ts) := by
  refine kids_any (w0 := w0) (V := V) (P := P) mid _ _ (fun n W => ∃ v', HG w0 W A P V G (outb ob v' (l ++ (kidsN G.s.ps mid n).flatMap (reachL p i a)) :: box aB 3 [.int .i64 (a : Int)] :: rbox addB ib pb ob i p ts)) ⟨v, by rw [show kidsN G.s.ps mid 0 = [] from rfl, List.flatMap_nil, List.append_nil]; exact H⟩
    (enters_of Tryz.func212 (by kernel_rfl) rfl) (fun _ _ ⟨_, h⟩ => ⟨_, h⟩) (fun _ _ _ ⟨v', h⟩ hb => ⟨v', h.past hb⟩) (fun j W hj hk ⟨v', h⟩ => ?_) (fun j W hj hk ⟨v', h⟩ => ?_)
  · rw [kidsN_succ, if_neg hk, List.append_nil]; exact ⟨v', h⟩
  · have hlen := flat_len (reachL p i a) 1 (reachL_len p i a) (kidsN G.s.ps mid j)
    have hkl := kidsN_len G.s.ps mid j
    have := low_h a j i ((sslot G.s.ps mid (j : Int)).getD slt0).dst p h ha hj hi (by rw [List.length_append]; omega)
    refine this.mono ?_
    rintro e W' ⟨hr, v2, h2⟩
    refine ⟨hr, v2, ?_⟩
    rw [kidsN_succ, if_pos hk, List.flatMap_append, List.flatMap_cons, List.flatMap_nil, List.append_nil, ← List.append_assoc]
    exact h2
end Go.Proofs.YtglohconhbcchaaGreatDoor

namespace Go.Proofs.YtglohconhbcchaaGreatDoor
open Go.RowKit Go.Shelf Go.Maps

section
variable {w0 w : World} {A : GAd} {P : Pm} {V : GVl} {G : GS} {ts : List Thing}
theorem HG.swap {t u : Thing} (H : HG w0 w A P V G (t :: u :: ts)) : HG w0 w A P V G (u :: t :: ts) := Hold.perm H (List.Perm.append_left _ (List.Perm.swap t u ts))
theorem HG.drop2 {t u : Thing} (H : HG w0 w A P V G (t :: u :: ts)) : HG w0 w A P V G (t :: ts) := H.swap.tail
end
def dbox (db dp : Nat) : Thing := box db 40 [.pointer (some ⟨dp, 0, none⟩)]
theorem reachM_eq (ps : List Pg) (p : Int) (i a : Nat) (mid : Int) : reachM ps p i ((a : Int), mid) = (if mid = p then span ((a * 8 + i) * 8) 8 else []) ++ (kids ps mid).flatMap (reachL p i a) := by
  unfold reachM; rfl
theorem reachM_len (ps : List Pg) (p : Int) (i : Nat) (a : Int × Int) : (reachM ps p i a).length ≤ 16 := by
  unfold reachM
  rw [List.length_append]
  have h1 := flat_len (reachL p i a.1.toNat) 1 (reachL_len p i a.1.toNat) (kids ps a.2)
  have h2 : (kids ps a.2).length ≤ 8 := kidsN_len ps a.2 8
  have h3 : (if a.2 = p then span ((a.1.toNat * 8 + i) * 8) 8 else []).length ≤ 8 := by
    split
    · rw [span_len]; omega
    · simp
  omega
set_option maxRecDepth 100000 in
set_option maxHeartbeats 2000000 in
theorem mid_h {w0 w : World} {A : GAd} {P : Pm} {V : GVl} {G : GS} {ts : List Thing} {ob addB ib pb db : Nat} {v : Value} {l : List Int} (a i : Nat) (mid p : Int) (H : HG w0 w A P V G (outb ob v l :: rbox addB ib pb ob i p (dbox db A.dp :: ts))) (ha : a < 8) (hi : i < 8) (hl : l.length ≤ 80000) :
    Calls Tryz.prog 211 #[.int .i64 (a : Int), .int .i64 mid, .pointer (some ⟨pb, 0, none⟩), .pointer (some ⟨addB, 0, none⟩), .pointer (some ⟨ib, 0, none⟩), .pointer (some ⟨db, 0, none⟩)] w
      fun e w' => (∃ r, e = .returned r) ∧ ∃ v', HG w0 w' A P V G (outb ob v' (l ++ reachM G.s.ps p i ((a : Int), mid)) :: rbox addB ib pb ob i p (dbox db A.dp :: ts)) := by
  rw [reachM_eq]
  have b0 := bal w (.cells #[.int .i64 (a : Int)] 3)
  have hz := Blk.new w 3 [.int .i64 (a : Int)]
  obtain ⟨wz, hwz⟩ : ∃ wz, w.alloc (.cells #[.int .i64 (a : Int)] 3) = wz := ⟨_, rfl⟩
  rw [show (w.alloc (.cells [Value.int .i64 (a : Int)].toArray 3)) = wz from hwz] at hz
  rw [hwz] at b0
  have H0 : HG w0 wz A P V G (box w.heap.size 3 [.int .i64 (a : Int)] :: outb ob v l :: rbox addB ib pb ob i p (dbox db A.dp :: ts)) := H.add b0 _ hz (fun b e => Nat.le_of_eq e.symm)
  have H1 := H0.swap
  obtain ⟨zb, hzb⟩ : ∃ zb, w.heap.size = zb := ⟨_, rfl⟩
  rw [hzb] at hz H1
  have k2 : Blk w addB 120 [addv ob] := Hold.at H 6 rfl
  have k3 : Blk w ib 3 [.int .i64 (i : Int)] := Hold.at H 7 rfl
  have k4 : Blk w pb 3 [.int .i64 p] := Hold.at H 8 rfl
  have k5 : Blk w db 40 [.pointer (some ⟨A.dp, 0, none⟩)] := Hold.at H 9 rfl
  have c2 := k2.cell (k := 0) rfl
  have c3 := k3.cell (k := 0) rfl
  have c4 := k4.cell (k := 0) rfl
  have c5 := k5.cell (k := 0) rfl
  have l2 := k2.lt
  have l3 := k3.lt
  have l4 := k4.lt
  have l5 := k5.lt
  unfold addv at c2
  have HW := Lib.hid hwz
  have HZB := Lib.hid hzb
  by_cases hp : mid = p
  · subst hp
    rw [if_pos rfl]
    have ha1 := add_h H1 ((a * 8 + i) * 8) 8 (by omega) (by omega) (by omega)
    have o1 := or_low a i hi (by omega)
    rw [show (((a * 8 + i) * 8 : Nat) : Int) = ((a : Int) * 8 + i) * 8 by omega] at ha1
    replace ha1 : Calls Tryz.prog 209 #[.int .i64 (((a : Int) * 8 + i) * 8), .int .i64 8, .pointer (some ⟨ob, 0, none⟩)] wz _ := ha1
    have HA := Lib.hid ha1
    clear ha1 H H0 H1 k2 k3 k4 k5 hz hwz hzb b0
    go_enter Tryz.func211, Tryz.ntmps211
    go_wp2_with (first
      | (rw [HW.out, HZB.out]; (with_reducible refine Calls.mono HA.out ?_); rintro e W1 ⟨⟨r1, rfl⟩, v1, h1⟩; clear c2 c3 c4 c5 l2 l3 l4 l5; have k5 : Blk W1 db 40 [.pointer (some ⟨A.dp, 0, none⟩)] := Hold.at h1 10 rfl; have c5 := k5.cell (k := 0) rfl; have l5 := k5.lt; clear k5; have hkl := kids_low a i mid mid h1 ha hi (by rw [List.length_append, span_len]; omega); have HK := Lib.hid hkl; clear h1 hkl)
      | (go_at_call 210; (with_reducible refine HK.out.mono ?_); rintro e W2 ⟨⟨r2, rfl⟩, v2, h2⟩; have HH2 := Lib.hid h2; clear h2))
    refine bodyPost_end (results_none rfl _ _ _) rfl ⟨⟨_, rfl⟩, v2, ?_⟩
    rw [← List.append_assoc]
    exact HH2.out.drop2
  · rw [if_neg hp, List.nil_append]
    have f1 : (mid == p) = false := beq_eq_false_iff_ne.2 hp
    have hkl := kids_low a i mid p H1 ha hi (by omega)
    have HK := Lib.hid hkl
    clear hkl H H0 H1 k2 k3 k4 k5 hz hwz hzb b0 hp
    go_enter Tryz.func211, Tryz.ntmps211
    go_wp2_with (go_at_call 210; rw [HW.out, HZB.out]; (with_reducible refine HK.out.mono ?_); rintro e W2 ⟨⟨r2, rfl⟩, v2, h2⟩; have HH2 := Lib.hid h2; clear h2)
    refine bodyPost_end (results_none rfl _ _ _) rfl ⟨⟨_, rfl⟩, v2, HH2.out.drop2⟩
/-- the outer kids: below the top page -/
theorem kids_mid {w0 w : World} {A : GAd} {P : Pm} {V : GVl} {G : GS} {ts : List Thing} {ob addB ib pb db : Nat} {v : Value} {l : List Int} (i : Nat) (top p : Int) (H : HG w0 w A P V G (outb ob v l :: rbox addB ib pb ob i p (dbox db A.dp :: ts))) (hi : i < 8) (hl : l.length ≤ 70000) :
    Calls Tryz.prog 210 #[.pointer (some ⟨A.dp, 0, none⟩), .int .i64 top, .func (.func 211) #[] #[.pointer (some ⟨pb, 0, none⟩), .pointer (some ⟨addB, 0, none⟩), .pointer (some ⟨ib, 0, none⟩), .pointer (some ⟨db, 0, none⟩)]] w
      fun e w' => (∃ r, e = .returned r) ∧ ∃ v', HG w0 w' A P V G (outb ob v' (l ++ (kids G.s.ps top).flatMap (reachM G.s.ps p i)) :: rbox addB ib pb ob i p (dbox db A.dp :: ts)) := by
  refine kids_any (w0 := w0) (V := V) (P := P) top _ _ (fun n W => ∃ v', HG w0 W A P V G (outb ob v' (l ++ (kidsN G.s.ps top n).flatMap (reachM G.s.ps p i)) :: rbox addB ib pb ob i p (dbox db A.dp :: ts))) ⟨v, by rw [show kidsN G.s.ps top 0 = [] from rfl, List.flatMap_nil, List.append_nil]; exact H⟩
    (enters_of Tryz.func211 (by kernel_rfl) rfl) (fun _ _ ⟨_, h⟩ => ⟨_, h⟩) (fun _ _ _ ⟨v', h⟩ hb => ⟨v', h.past hb⟩) (fun j W hj hk ⟨v', h⟩ => ?_) (fun j W hj hk ⟨v', h⟩ => ?_)
  · rw [kidsN_succ, if_neg hk, List.append_nil]; exact ⟨v', h⟩
  · have hlen := flat_len (reachM G.s.ps p i) 16 (reachM_len G.s.ps p i) (kidsN G.s.ps top j)
    have hkl := kidsN_len G.s.ps top j
    have := mid_h j i ((sslot G.s.ps top (j : Int)).getD slt0).dst p h hj hi (by rw [List.length_append]; omega)
    refine this.mono ?_
    rintro e W' ⟨hr, v2, h2⟩
    refine ⟨hr, v2, ?_⟩
    rw [kidsN_succ, if_pos hk, List.flatMap_append, List.flatMap_cons, List.flatMap_nil, List.append_nil, ← List.append_assoc]
    exact h2
end Go.Proofs.YtglohconhbcchaaGreatDoor

namespace Go.Proofs.YtglohconhbcchaaGreatDoor
open Go.RowKit Go.Shelf Go.Maps

theorem HG.fin {w0 w : World} {A : GAd} {P : Pm} {V : GVl} {G : GS} {ts : List Thing} {ob : Nat} {v : Value} {l : List Int} {a b c d : Thing} (H : HG w0 w A P V G (outb ob v l :: a :: b :: c :: d :: ts)) : HG w0 w A P V G (ints v l :: ts) := by
  have h1 := Hold.weak H 5 (ints v l) rfl H.top.2 (fun b hb => .inr hb)
  exact Hold.sub h1 (List.Sublist.append_left (List.Sublist.cons_cons _ (((((List.Sublist.refl ts).cons d).cons c).cons b).cons a)) _)
def nil3 : Value := .slice none 0 0
theorem greach_none {ps : List Pg} {root p i : Int} (h : sfind ps ⟨root, 3, 0⟩ = none ∨ i < 0 ∨ 8 ≤ i) : greach ps root p i = [] := by
  unfold greach
  rcases h with h | h
  · rw [h]
  · split
    · rfl
    · rw [if_neg (by omega)]
set_option maxRecDepth 100000 in
set_option maxHeartbeats 4000000 in
theorem reach_no {w0 w : World} {A : GAd} {P : Pm} {V : GVl} {G : GS} {ts : List Thing} (H : HG w0 w A P V G ts) (root p i : Int) (hno : sfind G.s.ps ⟨root, 3, 0⟩ = none ∨ i < 0 ∨ 8 ≤ i) :
    Calls Tryz.prog 187 #[.pointer (some ⟨A.dp, 0, none⟩), .int .i64 root, .int .i64 p, .int .i64 i] w
      fun e w' => e = .returned (.slice none 0 0) ∧ Below w.heap.size w w' := by
  have b1 := bal w (.cells #[.pointer (some ⟨A.dp, 0, none⟩)] 40)
  have b2 := bal (w.alloc (.cells #[.pointer (some ⟨A.dp, 0, none⟩)] 40)) (.cells #[.int .i64 p] 3)
  have b3 := bal ((w.alloc (.cells #[.pointer (some ⟨A.dp, 0, none⟩)] 40)).alloc (.cells #[.int .i64 p] 3)) (.cells #[.int .i64 i] 3)
  have bb := (b1.trans (b2.mono b1.size)).trans (b3.mono (b1.trans (b2.mono b1.size)).size)
  have k3 := Blk.new ((w.alloc (.cells #[.pointer (some ⟨A.dp, 0, none⟩)] 40)).alloc (.cells #[.int .i64 p] 3)) 3 [.int .i64 i]
  have c2 := (H.past bb).dx.hdr.cell (k := 2) rfl
  have ld := H.dx.hdr.lt
  have es : ((w.alloc (.cells #[.pointer (some ⟨A.dp, 0, none⟩)] 40)).alloc (.cells #[.int .i64 p] 3)).heap.size = w.heap.size + 1 + 1 := by simp
  rw [es] at k3
  obtain ⟨w3, hw3⟩ : ∃ w3, (((w.alloc (.cells #[.pointer (some ⟨A.dp, 0, none⟩)] 40)).alloc (.cells #[.int .i64 p] 3)).alloc (.cells #[.int .i64 i] 3)) = w3 := ⟨_, rfl⟩
  rw [show (((w.alloc (.cells #[.pointer (some ⟨A.dp, 0, none⟩)] 40)).alloc (.cells #[.int .i64 p] 3)).alloc (.cells ([.int .i64 i] : List Value).toArray 3)) = w3 from hw3] at k3
  rw [hw3] at bb
  obtain ⟨o, ho⟩ : ∃ o, sfind G.s.ps ⟨root, 3, 0⟩ = o := ⟨_, rfl⟩
  rw [ho] at hno
  have hf := sfind_any (H.past bb).sx root 3 0 o ho
  obtain ⟨os, hos⟩ : ∃ b, o.isSome = b := ⟨_, rfl⟩
  rw [hos] at hf
  have HF := Lib.hid hf
  have HW := Lib.hid hw3
  have HB := Lib.hid bb
  have HK := Lib.hid k3
  clear hf hw3 bb k3 b1 b2 b3 es H
  have hc : os = false ∨ (os = true ∧ i < 0) ∨ (os = true ∧ ¬ i < 0 ∧ 8 ≤ i) := by
    cases os
    · exact .inl rfl
    · rcases hno with h | h
      · rw [h] at hos; simp at hos
      · by_cases h0 : i < 0
        · exact .inr (.inl ⟨rfl, h0⟩)
        · exact .inr (.inr ⟨rfl, h0, by omega⟩)
  clear hno hos ho
  go_enter Tryz.func187, Tryz.ntmps187
  rcases hc with rfl | ⟨rfl, h0⟩ | ⟨rfl, h0, h8⟩
  all_goals
    go_wp2_with (go_at_call 17; rw [HW.out]; (with_reducible refine HF.out.mono ?_); rintro e W1 ⟨rfl, b1⟩; have K1 := HK.out.past b1; have i0 := K1.cell (k := 0) rfl; have il := K1.lt; clear K1)
    go_ret
    exact ⟨rfl, HB.out.trans (b1.mono HB.out.size)⟩
end Go.Proofs.YtglohconhbcchaaGreatDoor

namespace Go.Proofs.YtglohconhbcchaaGreatDoor
open Go.RowKit Go.Shelf Go.Maps

theorem store_func (W : World) (a : Addr) (o : Nat) : (store a (.func (.func 209) #[] #[.pointer (some ⟨o, 0, none⟩)])).run Tryz.prog W = stored Tryz.prog W a (.func (.func 209) #[] #[.pointer (some ⟨o, 0, none⟩)]) .plain := run_store _ _ _ _ _ rfl
set_option maxRecDepth 100000 in
set_option maxHeartbeats 4000000 in
theorem reach_yes {w0 w : World} {A : GAd} {P : Pm} {V : GVl} {G : GS} {ts : List Thing} (H : HG w0 w A P V G ts) (root p top : Int) (i : Nat) (hi : i < 8) (ho : sfind G.s.ps ⟨root, 3, 0⟩ = some top) :
    Calls Tryz.prog 187 #[.pointer (some ⟨A.dp, 0, none⟩), .int .i64 root, .int .i64 p, .int .i64 (i : Int)] w
      fun e w' => ∃ v, e = .returned v ∧ HG w0 w' A P V G (ints v (greach G.s.ps root p (i : Int)) :: ts) := by
  have b1 := bal w (.cells #[.pointer (some ⟨A.dp, 0, none⟩)] 40)
  have b2 := bal (w.alloc (.cells #[.pointer (some ⟨A.dp, 0, none⟩)] 40)) (.cells #[.int .i64 p] 3)
  have b3 := bal ((w.alloc (.cells #[.pointer (some ⟨A.dp, 0, none⟩)] 40)).alloc (.cells #[.int .i64 p] 3)) (.cells #[.int .i64 (i : Int)] 3)
  have k1 := Blk.new w 40 [.pointer (some ⟨A.dp, 0, none⟩)]
  have k2 := Blk.new (w.alloc (.cells #[.pointer (some ⟨A.dp, 0, none⟩)] 40)) 3 [.int .i64 p]
  have k3 := Blk.new ((w.alloc (.cells #[.pointer (some ⟨A.dp, 0, none⟩)] 40)).alloc (.cells #[.int .i64 p] 3)) 3 [.int .i64 (i : Int)]
  have e1 : (w.alloc (.cells #[.pointer (some ⟨A.dp, 0, none⟩)] 40)).heap.size = w.heap.size + 1 := by simp
  have e2 : ((w.alloc (.cells #[.pointer (some ⟨A.dp, 0, none⟩)] 40)).alloc (.cells #[.int .i64 p] 3)).heap.size = w.heap.size + 1 + 1 := by simp
  rw [e1] at k2
  rw [e2] at k3
  have h1 := H.add b1 (dbox w.heap.size A.dp) k1 (fun b e => Nat.le_of_eq e.symm)
  have h2 := h1.add b2 (box (w.heap.size + 1) 3 [.int .i64 p]) k2 (fun b e => by rw [e1]; exact Nat.le_of_eq e.symm)
  have h3 := h2.add b3 (box (w.heap.size + 1 + 1) 3 [.int .i64 (i : Int)]) k3 (fun b e => by rw [e2]; exact Nat.le_of_eq e.symm)
  have c2 := h3.dx.hdr.cell (k := 2) rfl
  have ld := H.dx.hdr.lt
  obtain ⟨w3, hw3⟩ : ∃ w3, (((w.alloc (.cells #[.pointer (some ⟨A.dp, 0, none⟩)] 40)).alloc (.cells #[.int .i64 p] 3)).alloc (.cells #[.int .i64 (i : Int)] 3)) = w3 := ⟨_, rfl⟩
  rw [hw3] at h3
  have hf := sfind_any h3.sx root 3 0 (some top) ho
  obtain ⟨db, hdb⟩ : ∃ db, w.heap.size = db := ⟨_, rfl⟩
  rw [hdb] at h3
  have hg : greach G.s.ps root p (i : Int) = (if p = top then span (i * 64) 64 else []) ++ (kids G.s.ps top).flatMap (reachM G.s.ps p i) := by
    unfold greach
    rw [ho]
    dsimp only
    rw [if_pos ⟨by omega, by omega⟩]
    rfl
  rw [hg]
  have HF := Lib.hid hf
  have HW := Lib.hid hw3
  have HDb := Lib.hid hdb
  have HH := Lib.hid h3
  have hiz : (i : Int) < 8 := by omega
  clear hf hw3 hdb h3 h2 h1 k1 k2 k3 b1 b2 b3 e1 e2 H ho hg
  by_cases hp : p = top
  · subst hp
    rw [if_pos rfl]
    have hst := store_func
    go_enter Tryz.func187, Tryz.ntmps187
    go_wp2_with (first
      | (go_at_call 17; rw [HW.out, HDb.out]; (with_reducible refine HF.out.mono ?_); rintro e W1 ⟨rfl, b1⟩; have g1 := HH.out.past b1; have g2 := g1.add (bal W1 (.cells #[.slice none 0 0] 43)) (outb W1.heap.size (.slice none 0 0) []) ⟨Blk.new W1 _ [_], RowI.nil _⟩ (fun b e => by { rcases e with e | e; exact Nat.le_of_eq e.symm; simp [Value.ownBlock] at e }); have g3 := (g2.add (bal _ (.cells #[addv W1.heap.size] 120)) (box (W1.heap.size + 1) 120 [addv W1.heap.size]) (by { have := Blk.new (W1.alloc (.cells #[.slice none 0 0] 43)) 120 [addv W1.heap.size]; rw [World.size_alloc] at this; exact this }) (fun b e => by { rw [World.size_alloc]; exact Nat.le_of_eq e.symm })).swap; have i1 := (show Blk W1 (db + 1 + 1) 3 [.int .i64 (i : Int)] from g1.top).cell (k := 0) rfl; have il1 := (show Blk W1 (db + 1 + 1) 3 [.int .i64 (i : Int)] from g1.top).lt; have p1 := (show Blk W1 (db + 1) 3 [.int .i64 p] from g1.top2).cell (k := 0) rfl; have pl1 := (show Blk W1 (db + 1) 3 [.int .i64 p] from g1.top2).lt; have p2 := (show Blk _ (db + 1) 3 [.int .i64 p] from Hold.at g3 8 rfl).cell (k := 0) rfl; have i2 := (show Blk _ (db + 1 + 1) 3 [.int .i64 (i : Int)] from Hold.at g3 7 rfl).cell (k := 0) rfl; have f2 := (show Blk _ (W1.heap.size + 1) 120 [addv W1.heap.size] from Hold.at g3 6 rfl).cell (k := 0) rfl; have m2 := (show Blk _ db 40 [.pointer (some ⟨A.dp, 0, none⟩)] from Hold.at g3 9 rfl).cell (k := 0) rfl; unfold addv at p2 i2 f2 m2; have ha1 := add_h g3 (i * 64) 64 (by omega) (by omega) (by simp); rw [show ((i * 64 : Nat) : Int) = (i : Int) * 64 by omega] at ha1; unfold addv at ha1; have HA := Lib.hid ha1; clear ha1 g1 g2 g3)
      | ((with_reducible refine Calls.mono HA.out ?_); rintro e W4 ⟨⟨r4, rfl⟩, v4, h4⟩; have d4 := (show Blk W4 db 40 [.pointer (some ⟨A.dp, 0, none⟩)] from Hold.at h4 9 rfl).cell (k := 0) rfl; have dl4 := (show Blk W4 db 40 [.pointer (some ⟨A.dp, 0, none⟩)] from Hold.at h4 9 rfl).lt; have hkm := kids_mid i p p h4 hi (by simp [span_len]); have HK := Lib.hid hkm; clear h4 hkm)
      | (go_at_call 210; (with_reducible refine HK.out.mono ?_); rintro e W5 ⟨⟨r5, rfl⟩, v5, h5⟩; have o0 := h5.top.1.cell (k := 0) rfl; have ol := h5.top.1.lt; have HH5 := Lib.hid h5; clear h5))
    go_ret
    refine ⟨_, rfl, ?_⟩
    have := HH5.out.fin
    rw [List.nil_append] at this
    exact this
  · rw [if_neg hp, List.nil_append]
    have f1 : (p == top) = false := beq_eq_false_iff_ne.2 hp
    clear hp
    have hst := store_func
    go_enter Tryz.func187, Tryz.ntmps187
    go_wp2_with (first
      | (go_at_call 17; rw [HW.out, HDb.out]; (with_reducible refine HF.out.mono ?_); rintro e W1 ⟨rfl, b1⟩; have g1 := HH.out.past b1; have g2 := g1.add (bal W1 (.cells #[.slice none 0 0] 43)) (outb W1.heap.size (.slice none 0 0) []) ⟨Blk.new W1 _ [_], RowI.nil _⟩ (fun b e => by { rcases e with e | e; exact Nat.le_of_eq e.symm; simp [Value.ownBlock] at e }); have g3 := (g2.add (bal _ (.cells #[addv W1.heap.size] 120)) (box (W1.heap.size + 1) 120 [addv W1.heap.size]) (by { have := Blk.new (W1.alloc (.cells #[.slice none 0 0] 43)) 120 [addv W1.heap.size]; rw [World.size_alloc] at this; exact this }) (fun b e => by { rw [World.size_alloc]; exact Nat.le_of_eq e.symm })).swap; have i1 := (show Blk W1 (db + 1 + 1) 3 [.int .i64 (i : Int)] from g1.top).cell (k := 0) rfl; have il1 := (show Blk W1 (db + 1 + 1) 3 [.int .i64 (i : Int)] from g1.top).lt; have p1 := (show Blk W1 (db + 1) 3 [.int .i64 p] from g1.top2).cell (k := 0) rfl; have pl1 := (show Blk W1 (db + 1) 3 [.int .i64 p] from g1.top2).lt; have d4 := (show Blk _ db 40 [.pointer (some ⟨A.dp, 0, none⟩)] from Hold.at g1 7 rfl).cell (k := 0) rfl; have dl4 := (show Blk _ db 40 [.pointer (some ⟨A.dp, 0, none⟩)] from Hold.at g1 7 rfl).lt; have p2 := (show Blk _ (db + 1) 3 [.int .i64 p] from Hold.at g3 8 rfl).cell (k := 0) rfl; have i2 := (show Blk _ (db + 1 + 1) 3 [.int .i64 (i : Int)] from Hold.at g3 7 rfl).cell (k := 0) rfl; have f2 := (show Blk _ (W1.heap.size + 1) 120 [addv W1.heap.size] from Hold.at g3 6 rfl).cell (k := 0) rfl; have m2 := (show Blk _ db 40 [.pointer (some ⟨A.dp, 0, none⟩)] from Hold.at g3 9 rfl).cell (k := 0) rfl; unfold addv at p2 i2 f2 m2; have ha1 := kids_mid i top p g3 hi (by simp); unfold addv at ha1; have HK := Lib.hid ha1; clear ha1 g1 g2 g3)
      | (go_at_call 210; (with_reducible refine HK.out.mono ?_); rintro e W5 ⟨⟨r5, rfl⟩, v5, h5⟩; have o0 := h5.top.1.cell (k := 0) rfl; have ol := h5.top.1.lt; have HH5 := Lib.hid h5; clear h5))
    go_ret
    refine ⟨_, rfl, ?_⟩
    have := HH5.out.fin
    rw [List.nil_append] at this
    exact this
end Go.Proofs.YtglohconhbcchaaGreatDoor
