/- pte.Put at a shadow page's entry; frame.Mem.Set. A guard's world as things that lie apart; a shadow page's entry is put, a child's, a leaf's, cleared. A store's writes: put, Child, Leaf, Clear. A store's writes, on: Leaf; the free frames: Take, Give. -/
import Derived.Test.YtglohconhbcchaaGreatDoorGs
import Derived.Test.YtglohconhbcchaaGreatDoorMark
import Derived.Test.YtglohconhbcchaaGreatDoorBlk
import Derived.WalkArith
import Derived.Test.YtglohconhbcchaaGreatDoorGt
import Derived.Test.YtglohconhbcchaaGreatDoorGview
import Derived.Test.YtglohconhbcchaaGreatDoorRows1
import Derived.Maps.OwnOps
namespace Go.Proofs.YtglohconhbcchaaGreatDoor
open Go.RowKit Go.Shelf

/-- the flags of an entry that is put -/
def pfl (w u nx : Bool) (k : Nat) : Bool := [true, w, u, false, false, false, nx].getD k false
def pacc (n : Nat) (w u nx : Bool) : Nat → Nat
  | 0 => n * 4096
  | k + 1 => if pfl w u nx k then pacc n w u nx k ||| fbit k else pacc n w u nx k
theorem or_small (n a b : Nat) (ha : a < 4096) (hb : b < 4096) (hab : a ||| b = a + b) : (n * 4096 + a) ||| b = n * 4096 + (a + b) := by
  have e0 : n * 4096 = 2 ^ 12 * n := Nat.mul_comm _ _
  have e1 : 2 ^ 12 * n + a = 2 ^ 12 * n ||| a := Nat.two_pow_add_eq_or_of_lt ha n
  have hlt : a ||| b < 2 ^ 12 := Nat.or_lt_two_pow ha hb
  have e2 : 2 ^ 12 * n + (a ||| b) = 2 ^ 12 * n ||| (a ||| b) := Nat.two_pow_add_eq_or_of_lt hlt n
  rw [e0, ← hab, e2, e1, Nat.or_assoc]
theorem or_top (x : Nat) (hx : x < 9223372036854775808) : x ||| 9223372036854775808 = x + 9223372036854775808 := by
  rw [Nat.or_comm, Nat.add_comm]
  have e : (2 : Nat) ^ 63 = 9223372036854775808 := by simp
  have := Nat.two_pow_add_eq_or_of_lt (i := 63) (b := x) (by rw [e]; exact hx) 1
  rw [Nat.mul_one, e] at this
  exact this.symm
theorem fbit_lt (k : Nat) : fbit k < 18446744073709551616 := by
  unfold fbit
  match k with
  | 0 => simp
  | 1 => simp
  | 2 => simp
  | 3 => simp
  | 4 => simp
  | 5 => simp
  | 6 => simp
  | k + 7 => simp
theorem pacc_val (n : Nat) (hn : n < 1048576) (w u nx : Bool) : pacc n w u nx 7 = n * 4096 + 1 + (if w then 2 else 0) + (if u then 4 else 0) + (if nx then 9223372036854775808 else 0) := by
  have h1 : n * 4096 ||| 1 = n * 4096 + 1 := by have := or_small n 0 1 (by omega) (by omega) (by decide); simpa using this
  have q1 : (n * 4096 + 1) ||| 2 = n * 4096 + 3 := or_small n 1 2 (by omega) (by omega) (by decide)
  have q2 : (n * 4096 + 1) ||| 4 = n * 4096 + 5 := or_small n 1 4 (by omega) (by omega) (by decide)
  have q3 : (n * 4096 + 3) ||| 4 = n * 4096 + 7 := or_small n 3 4 (by omega) (by omega) (by decide)
  have t1 := or_top (n * 4096 + 1) (by omega)
  have t2 := or_top (n * 4096 + 3) (by omega)
  have t3 := or_top (n * 4096 + 5) (by omega)
  have t4 := or_top (n * 4096 + 7) (by omega)
  cases w <;> cases u <;> cases nx <;> simp only [pacc, pfl, fbit, List.getD_cons_zero, List.getD_cons_succ, if_true, Bool.false_eq_true, if_false, h1, q1, q2, q3, t1, t2, t3, t4] <;> clear h1 q1 q2 q3 t1 t2 t3 t4 <;> omega
theorem pacc_lt (n : Nat) (hn : n < 1048576) (w u nx : Bool) : ∀ k, pacc n w u nx k < 2 ^ 64
  | 0 => by show n * 4096 < _; omega
  | k + 1 => by
    have ih := pacc_lt n hn w u nx k
    unfold pacc
    split
    · exact Nat.or_lt_two_pow ih (by have := fbit_lt k; simpa using this)
    · exact ih
theorem pteV_val (n : Nat) (hn : n < 1048576) (r : Rt) : pteV (n : Int) r = pacc n r.w r.u (!r.x) 7 := by
  rw [pacc_val n hn]
  unfold pteV
  rw [if_pos ⟨by omega, by omega⟩]
  cases r.x <;> simp
set_option maxRecDepth 100000 in
set_option maxHeartbeats 2000000 in
theorem pput_any (w : World) (n : Int) (rw' ru nx : Bool) (r : Rt) (hr : r = ⟨rw', ru, !nx⟩) :
    Calls Tryz.prog 207 #[.agg #[.bool true, .bool rw', .bool ru, .bool false, .bool false, .bool false, .bool nx, .bool false, .int .i64 n]] w
      fun e w' => (∃ b, e = .returned (.tuple #[.int .u64 ((pteV n r : Nat) : Int), .bool b])) ∧ Below w.heap.size w w' := by
  by_cases hn : 0 ≤ n ∧ n < 1048576
  · obtain ⟨m, rfl⟩ := Int.eq_ofNat_of_zero_le hn.1
    have hm : m < 1048576 := by omega
    have hv : pteV (m : Int) r = pacc m rw' ru nx 7 := by subst hr; rw [pteV_val m hm]; simp
    rw [hv]
    have hz := Blk.new w 134 [.bool true, .bool rw', .bool ru, .bool false, .bool false, .bool false, .bool nx, .bool false, .int .i64 (m : Int)]
    have hstep : ∀ k, k < 7 → pfl rw' ru nx k = true → bits .or .u64 ((pacc m rw' ru nx k : Nat) : Int) ((fbit k : Nat) : Int) = ((pacc m rw' ru nx (k + 1) : Nat) : Int) := fun k hk hf => by
      rw [u64_or_nat _ _ (pacc_lt m hm _ _ _ k) (by have := fbit_lt k; simpa using this)]
      have e : pacc m rw' ru nx (k + 1) = pacc m rw' ru nx k ||| fbit k := by
        show (if pfl rw' ru nx k then _ else _) = _
        rw [if_pos hf]
      rw [e]
    have hstay : ∀ k, pfl rw' ru nx k = false → pacc m rw' ru nx (k + 1) = pacc m rw' ru nx k := fun k hf => by
      conv => lhs; unfold pacc
      rw [if_neg (by rw [hf]; simp)]
    have h0 : (m : Int) * 4096 = ((pacc m rw' ru nx 0 : Nat) : Int) := by show _ = ((m * 4096 : Nat) : Int); omega
    have hcell : ∀ k, k < 7 → ([Value.bool true, .bool rw', .bool ru, .bool false, .bool false, .bool false, .bool nx, .bool false, .int .i64 (m : Int)])[k]? = some (.bool (pfl rw' ru nx k)) := fun k hk => by
      match k, hk with
      | 0, _ => rfl
      | 1, _ => rfl
      | 2, _ => rfl
      | 3, _ => rfl
      | 4, _ => rfl
      | 5, _ => rfl
      | 6, _ => rfl
    have HS := Lib.hid hstep
    have HSt := Lib.hid hstay
    have HC := Lib.hid hcell
    have H0 := Lib.hid h0
    have HZ := Lib.hid hz
    have hw1 : IntKind.u64.wrap (m : Int) = (m : Int) := by rw [IntKind.wrap_u64]; omega
    have hw2 : IntKind.u64.wrap ((m : Int) * 4096) = (m : Int) * 4096 := by rw [IntKind.wrap_u64]; omega
    have hm0 : decide ((m : Int) < 0) = false := decide_eq_false (by omega)
    have hm1 : decide ((1048576 : Int) ≤ (m : Int)) = false := decide_eq_false (by omega)
    clear hstep hstay hcell hz hv hr hn h0
    go_enter Tryz.func207, Tryz.ntmps207
    go_wp2_with (go_at_call 116; refine (flags_any _ _).mono ?_; rintro e W ⟨rfl, hB⟩)
    have hidx := flag_at w.heap.size
    have hb0 := (HZ.out).past hB
    rw [H0.out]
    have hBB : Below w.heap.size w W := (bal w _).trans (hB.mono (by simp))
    obtain ⟨zb, hzb⟩ : ∃ zb, w.heap.size = zb := ⟨_, rfl⟩
    rw [hzb] at hidx hb0 hBB ⊢
    clear hB hw1 hw2 hm0 hm1 H0
    go_loopw [4, 6, 24] (fun r _ i wr => ∃ k : Nat, k ≤ 7 ∧ i = .int .i64 k ∧ r = .int .u64 ((pacc m rw' ru nx k : Nat) : Int) ∧ Blk wr zb 134 [.bool true, .bool rw', .bool ru, .bool false, .bool false, .bool false, .bool nx, .bool false, .int .i64 (m : Int)] ∧ Below zb w wr) (fun _ _ i _ => 7 - (intOf i).toNat)
    case atStart => exact ⟨0, by omega, rfl, rfl, hb0, hBB⟩
    case round =>
      obtain ⟨k, hk, rfl, rfl, hr0, hrB⟩ := hrel
      clear hb0 hBB
      by_cases h7 : k < 7
      · have hi := hidx k h7
        have hc := hr0.cell (HC.out k h7)
        have hlt := hr0.lt
        have hkz : (k : Int) < 7 := by omega
        have hs := HS.out k h7
        have hst := HSt.out k
        obtain ⟨bx, hbx⟩ : ∃ b, pfl rw' ru nx k = b := ⟨_, rfl⟩
        rw [hbx] at hc hs hst
        have HSt2 := Lib.hid hst
        have HS2 := Lib.hid hs
        have HR0 := Lib.hid hr0
        have HB := Lib.hid hrB
        clear hidx hst hs hbx hr0 hrB
        have hle : zb ≤ wr.heap.size := by omega
        cases bx
        · go_wp2
          go_roundw
          case rel => exact ⟨k + 1, by omega, by go_num, by rw [HSt2.out rfl], HR0.out.alloc _, HB.out.alloc hle _⟩
          case measure => simp [intOf]; omega
        · go_wp2
          go_roundw
          case rel => exact ⟨k + 1, by omega, by go_num, by rw [← HS2.out rfl], HR0.out.alloc _, HB.out.alloc hle _⟩
          case measure => simp [intOf]; omega
      · obtain rfl : k = 7 := by omega
        clear hidx
        go_wp2
        go_ret2
        exact ⟨⟨_, rfl⟩, by rw [hzb]; exact hrB⟩
  · have hv : pteV n r = 0 := by unfold pteV; rw [if_neg hn]
    rw [hv]
    have hz := Blk.new w 134 [.bool true, .bool rw', .bool ru, .bool false, .bool false, .bool false, .bool nx, .bool false, .int .i64 n]
    have hc : n < 0 ∨ 1048576 ≤ n := by omega
    clear hv hr hn
    rcases hc with hc | hc
    · go_enter Tryz.func207, Tryz.ntmps207
      go_wp2
      go_ret2
      exact ⟨⟨_, rfl⟩, bal _ _⟩
    · go_enter Tryz.func207, Tryz.ntmps207
      go_wp2
      go_ret2
      exact ⟨⟨_, rfl⟩, bal _ _⟩
theorem hset_yes (w : World) (fp fb n : Nat) (mem : List Nat) (H : Host w fp fb n mem) (f i v : Nat) (hf : f < n) (hi : i < 8) :
    Calls Tryz.prog 106 #[.pointer (some ⟨fp, 0, none⟩), .int .i64 (f : Int), .int .i64 (i : Int), .int .u64 (v : Int)] w
      fun e w' => e = .returned (.bool true) ∧ w.setCell ⟨fb, f * 8 + i, none⟩ (.int .u64 (v : Int)) = w' := by
  have a1 := H.hdr.cell (k := 0) rfl
  have hsm := H.small
  have d2 : w.cell? ⟨fb, f * 8 + i, none⟩ = some (.int .u64 ((mem.getD (f * 8 + i) 0 : Nat) : Int)) := H.row.cell (by
    have : f * 8 + i < mem.length := by have := H.len; omega
    simp [List.getElem?_eq_getElem this, u64, List.getD])
  have d3 := H.row.free (f * 8 + i)
  have hfz : (f : Int) < (n : Int) := by omega
  have hiz : (i : Int) < 8 := by omega
  clear H
  go_enter Tryz.func106, Tryz.ntmps106
  go_wp2
  go_ret
  exact ⟨rfl, rfl⟩
end Go.Proofs.YtglohconhbcchaaGreatDoor

namespace Go.Proofs.YtglohconhbcchaaGreatDoor
open Go.RowKit Go.Shelf

def hst (A : GAd) (P : Pm) (mem : List Nat) : Thing where
  own k := k = A.fp ∨ k = A.fb
  so w := Host w A.fp A.fb P.n mem
  lt w h k hk := by
    rcases hk with e | e
    · subst e; exact h.hdr.lt
    · subst e; exact h.row.lt
  keep w w' h _ hk := ⟨h.hdr.of_heap (hk _ (.inl rfl)), h.row.of_heap (hk _ (.inr rfl)), h.len, h.small, h.bd⟩
def gst (A : GAd) (P : Pm) : Thing where
  own k := k = A.p ∨ k = A.gp ∨ k = A.hb
  so w := Guest w A.p A.gp A.hb A.mb A.fp P.hosts A.cap P.n
  lt w h k hk := by
    obtain ⟨sp, hr⟩ := h.row
    rcases hk with e | e | e
    · subst e; exact h.hdr.lt
    · subst e; exact h.gm.lt
    · subst e; exact hr.lt
  keep w w' h _ hk := by
    obtain ⟨sp, hr⟩ := h.row
    exact ⟨h.hdr.of_heap (hk _ (.inl rfl)), h.gm.of_heap (hk _ (.inr (.inl rfl))), ⟨sp, hr.of_heap (hk _ (.inr (.inr rfl)))⟩, h.len, h.bd⟩
def stor (A : GAd) (P : Pm) (V : GVl) (S : SS) : Thing where
  own := SOwn A V
  so w := SX w P A V S
  lt _ h := h.lt
  keep _ _ h _ hk := h.keep hk
theorem HRow.keep0 {w w' : World} {v : Value} {l : List Hit} (h : HRow w v l) (hk : ∀ b, v.ownBlock = some b → w'.heap[b]? = w.heap[b]?) : HRow w' v l := by
  rcases h.view with ⟨rfl, rfl⟩ | ⟨g, cap, rest, rfl, hb, h1, h2, h3⟩
  · exact HRow.nil _
  · exact HRow.mk' (hb.of_heap (hk g rfl)) h1 h2 h3
theorem HRow.lt0 {w : World} {v : Value} {l : List Hit} (h : HRow w v l) : ∀ b, v.ownBlock = some b → b < w.heap.size := by
  rcases h.view with ⟨rfl, rfl⟩ | ⟨g, cap, rest, rfl, hb, h1, h2, h3⟩
  · intro b hb; simp [Value.ownBlock] at hb
  · intro b hb'; simp [Value.ownBlock] at hb'; subst hb'; exact hb.lt
structure TX (w : World) (A : GAd) (P : Pm) (tv : Value) (l : List Hit) : Prop where
  t : TS w A.tp P.most tv l
  le : l.length ≤ P.most
  small : P.most ≤ 512
def tlbt (A : GAd) (P : Pm) (tv : Value) (l : List Hit) : Thing where
  own k := k = A.tp ∨ tv.ownBlock = some k
  so w := TX w A P tv l
  lt w h k hk := by
    rcases hk with e | e
    · subst e; exact h.t.hdr.lt
    · exact h.t.row.lt0 k e
  keep w w' h _ hk := ⟨⟨h.t.hdr.of_heap (hk _ (.inl rfl)), h.t.row.keep0 fun b e => hk b (.inr e)⟩, h.le, h.small⟩
structure DX (w : World) (A : GAd) (u : Value) (l : List Int) : Prop where
  hdr : Blk w A.dp 144 [.pointer (some ⟨A.p, 0, none⟩), .pointer (some ⟨A.gp, 0, none⟩), .pointer (some ⟨A.sp, 0, none⟩), .pointer (some ⟨A.tp, 0, none⟩), u]
  row : RowI w u l
def grd (A : GAd) (u : Value) (l : List Int) : Thing where
  own k := k = A.dp ∨ u.ownBlock = some k
  so w := DX w A u l
  lt w h k hk := by
    rcases hk with e | e
    · subst e; exact h.hdr.lt
    · exact h.row.lt' k e
  keep w w' h _ hk := ⟨h.hdr.of_heap (hk _ (.inl rfl)), h.row.keep fun b e => hk b (.inr e)⟩
/-- a guard's world -/
def gths (A : GAd) (P : Pm) (V : GVl) (G : GS) : List Thing := [hst A P G.s.mem, gst A P, stor A P V G.s, tlbt A P V.tv G.l, grd A V.u G.loose]
def HG (w0 w : World) (A : GAd) (P : Pm) (V : GVl) (G : GS) (ts : List Thing) : Prop := Hold w0 w (gths A P V G ++ ts)
section
variable {w0 w : World} {A : GAd} {P : Pm} {V : GVl} {G : GS} {ts : List Thing} (H : HG w0 w A P V G ts)
include H
theorem HG.hold : Hold w0 w (gths A P V G ++ ts) := H
theorem HG.host : Host w A.fp A.fb P.n G.s.mem := Hold.at H 0 rfl
theorem HG.guest : Guest w A.p A.gp A.hb A.mb A.fp P.hosts A.cap P.n := Hold.at H 1 rfl
theorem HG.sx : SX w P A V G.s := Hold.at H 2 rfl
theorem HG.tx : TX w A P V.tv G.l := Hold.at H 3 rfl
theorem HG.dx : DX w A V.u G.loose := Hold.at H 4 rfl
theorem HG.past {w' : World} (hb : Below w.heap.size w w') : HG w0 w' A P V G ts := Hold.past H hb
theorem HG.drewN (n : Nat) : HG w0 (w.drewN n) A P V G ts := H.past (below_of_drewN w n)
theorem HG.drew : HG w0 w.drew A P V G ts := H.past (Below.refl _ w).drew
theorem HG.size : w0.heap.size ≤ w.heap.size := Hold.size H
theorem HG.below : Below w0.heap.size w0 w := Hold.b H
theorem HG.inv : SInv P G.s := H.sx.inv
end
theorem SX.mem {w : World} {P : Pm} {A : GAd} {V : GVl} {S : SS} (h : SX w P A V S) (m : List Nat) (hm : m.length = S.mem.length) : SX w P A V { S with mem := m } :=
  ⟨h.hdr, h.row, h.plen, h.pg, h.pnd, h.fl, h.back, h.tk, ⟨hm.trans h.inv.len, h.inv.sl, h.inv.pos, h.inv.bpos, h.inv.nd, h.inv.fr, h.inv.cnt, h.inv.top, h.inv.small, h.inv.kr⟩⟩
theorem ptr_ne {w : World} {b b' : Nat} {T T' : TypeId} {xs ys : List Value} (h : Blk w b T xs) (h' : Blk w b' T' ys) (hT : T ≠ T') : b ≠ b' := h.ne h' hT
/-- a store into a shadow page's block -/
theorem SX.setSlot {w : World} {P : Pm} {A : GAd} {V : GVl} {S : SS} (h : SX w P A V S) {f i : Int} (x : Slt) {j k b : Nat} {p : Pg} (hi : i = (j : Int)) (hj : j < 8) (hk : S.ps[k]? = some p) (hb : V.pbs[k]? = some b) (hpf : p.f = f) :
    SX (((((w.setCell ⟨b, 4 + j * 5, none⟩ (.int .i64 x.kind)).setCell ⟨b, 4 + j * 5 + 1, none⟩ (.int .i64 x.dst)).setCell ⟨b, 4 + j * 5 + 2, none⟩ (.bool x.r.w)).setCell ⟨b, 4 + j * 5 + 3, none⟩ (.bool x.r.u)).setCell ⟨b, 4 + j * 5 + 4, none⟩ (.bool x.r.x)) P A V { S with ps := setS S.ps f i.toNat x } := by
  have hij : i.toNat = j := by omega
  rw [hij]
  have hinv := sput_inv h.inv f i x 0
  rw [sput, hij] at hinv
  obtain ⟨q, hq, hbl⟩ := h.pg k b hb
  rw [hk] at hq
  cases hq
  have hpm : p ∈ S.ps := List.mem_of_getElem? hk
  have h8 := h.inv.sl p hpm
  obtain ⟨w', hw'⟩ : ∃ w', ((((w.setCell ⟨b, 4 + j * 5, none⟩ (.int .i64 x.kind)).setCell ⟨b, 4 + j * 5 + 1, none⟩ (.int .i64 x.dst)).setCell ⟨b, 4 + j * 5 + 2, none⟩ (.bool x.r.w)).setCell ⟨b, 4 + j * 5 + 3, none⟩ (.bool x.r.u)).setCell ⟨b, 4 + j * 5 + 4, none⟩ (.bool x.r.x) = w' := ⟨_, rfl⟩
  have hB : Blk w' b 128 (pgC (setP f j x p)) := by
    have h5 := ((((hbl.set (4 + j * 5) (.int .i64 x.kind)).set (4 + j * 5 + 1) (.int .i64 x.dst)).set (4 + j * 5 + 2) (.bool x.r.w)).set (4 + j * 5 + 3) (.bool x.r.u)).set (4 + j * 5 + 4) (.bool x.r.x)
    rw [hw'] at h5
    have e := slC_set p.s j x (by omega) [.int .i64 p.f, .int .i64 p.k.g, .int .i64 p.k.lv, .int .i64 p.k.ro] [] (4 + j * 5) rfl
    rw [List.append_nil, List.append_nil] at e
    have e2 : pgC (setP f j x p) = [.int .i64 p.f, .int .i64 p.k.g, .int .i64 p.k.lv, .int .i64 p.k.ro] ++ (p.s.set j x).flatMap slC := by unfold setP pgC; rw [if_pos hpf]
    rw [e2, ← e]
    exact h5
  have hO : ∀ k', k' ≠ b → w'.heap[k']? = w.heap[k']? := fun k' hk' => by
    rw [← hw', Below.heap_setCell _ _ _ _ hk', Below.heap_setCell _ _ _ _ hk', Below.heap_setCell _ _ _ _ hk', Below.heap_setCell _ _ _ _ hk', Below.heap_setCell _ _ _ _ hk']
  rw [hw']
  have nb : ∀ {c : Nat} {T : TypeId} {xs : List Value}, Blk w c T xs → T ≠ 128 → Blk w' c T xs := fun hc hT => hc.of_heap (hO _ (hc.ne hbl hT))
  refine ⟨nb h.hdr (by decide), ?_, by rw [h.plen]; exact (setS_len _ _ _ _).symm, ?_, h.pnd, nb h.fl (by decide), ?_, ?_, ⟨h.inv.len, hinv.sl, hinv.pos, hinv.bpos, hinv.nd, hinv.fr, hinv.cnt, hinv.top, hinv.small, hinv.kr⟩⟩
  · refine h.row.keep fun c hc => hO c fun e => ?_
    subst e
    rcases h.row.view with ⟨e, _⟩ | ⟨g, cap, rest, e, hg, _⟩
    · rw [e] at hc; simp [Value.ownBlock] at hc
    · rw [e] at hc; simp [Value.ownBlock] at hc; subst hc
      exact absurd (hg.inj hbl).2 (by decide)
  · intro k' b' hb'
    obtain ⟨q, hq, hbq⟩ := h.pg k' b' hb'
    have hq2 : (setS S.ps f j x)[k']? = some (setP f j x q) := by unfold setS; rw [List.getElem?_map, hq]; rfl
    by_cases hbb : b' = b
    · subst hbb
      have hkk : k' = k := by
        obtain ⟨l1, e1⟩ := List.getElem?_eq_some_iff.1 hb'
        obtain ⟨l2, e2⟩ := List.getElem?_eq_some_iff.1 hb
        exact (List.nodup_iff_pairwise_ne.1 h.pnd |> fun hp => by
          by_cases hlt : k' = k
          · exact hlt
          · exfalso
            rcases Nat.lt_or_gt_of_ne hlt with hlt | hlt
            · exact (List.pairwise_iff_getElem.1 hp k' k l1 l2 hlt) (e1.trans e2.symm)
            · exact (List.pairwise_iff_getElem.1 hp k k' l2 l1 hlt) (e2.trans e1.symm))
      subst hkk
      rw [hk] at hq
      cases hq
      exact ⟨_, hq2, hB⟩
    · refine ⟨_, hq2, ?_⟩
      have hqf : q.f ≠ f := fun e => by
        have h1 := find_f h.inv.ndf (List.mem_of_getElem? hq)
        have h2 := find_f h.inv.ndf hpm
        rw [e] at h1
        rw [hpf, h1] at h2
        have e3 := Option.some.inj h2
        subst e3
        have hkk : k' = k := by
          have hnd := h.inv.ndf
          obtain ⟨l1, e1⟩ := List.getElem?_eq_some_iff.1 hq
          obtain ⟨l2, e2⟩ := List.getElem?_eq_some_iff.1 hk
          by_cases hlt : k' = k
          · exact hlt
          · exfalso
            have hp := List.nodup_iff_pairwise_ne.1 hnd
            rcases Nat.lt_or_gt_of_ne hlt with hlt | hlt
            · exact (List.pairwise_iff_getElem.1 hp k' k (by simpa using l1) (by simpa using l2) hlt) (by simp [e1, e2])
            · exact (List.pairwise_iff_getElem.1 hp k k' (by simpa using l2) (by simpa using l1) hlt) (by simp [e1, e2])
        subst hkk
        rw [hb'] at hb
        exact hbb (Option.some.inj hb)
      have e : setP f j x q = q := by unfold setP; rw [if_neg hqf]
      rw [e]
      exact hbq.of_heap (hO b' hbb)
  · refine h.back.keep fun c hc => hO c fun e => ?_
    subst e
    rcases h.back.view with ⟨e, _⟩ | ⟨g, cap, rest, e, hg, _⟩
    · rw [e] at hc; simp [Value.ownBlock] at hc
    · rw [e] at hc; simp [Value.ownBlock] at hc; subst hc
      exact absurd (hg.inj hbl).2 (by decide)
  · have := h.tk
    show Keys w' A.km ((setS S.ps f j x).map Pg.f)
    rw [setS_f]
    refine this.keep (hO _ fun e => ?_)
    obtain ⟨n, D, ⟨es, c, h1, _⟩, _⟩ := this
    rw [e] at h1
    unfold Blk at hbl
    rw [hbl] at h1
    cases h1
theorem HG.setSlot {w0 w : World} {A : GAd} {P : Pm} {V : GVl} {G : GS} {ts : List Thing} (H : HG w0 w A P V G ts) {f i : Int} (x : Slt) {j k b : Nat} {p : Pg} (hi : i = (j : Int)) (hj : j < 8) (hk : G.s.ps[k]? = some p) (hb : V.pbs[k]? = some b) (hpf : p.f = f) :
    HG w0 (((((w.setCell ⟨b, 4 + j * 5, none⟩ (.int .i64 x.kind)).setCell ⟨b, 4 + j * 5 + 1, none⟩ (.int .i64 x.dst)).setCell ⟨b, 4 + j * 5 + 2, none⟩ (.bool x.r.w)).setCell ⟨b, 4 + j * 5 + 3, none⟩ (.bool x.r.u)).setCell ⟨b, 4 + j * 5 + 4, none⟩ (.bool x.r.x)) A P V { G with s := { G.s with ps := setS G.s.ps f i.toNat x } } ts := by
  have hm : SOwn A V b := .inr (.inr (.inl (List.mem_of_getElem? hb)))
  exact Hold.step H 2 (stor A P V { G.s with ps := setS G.s.ps f i.toNat x }) rfl (H.sx.setSlot x hi hj hk hb hpf)
    (Kept.setCell (p := ⟨b, 4 + j * 5 + 4, none⟩) (Kept.setCell (p := ⟨b, 4 + j * 5 + 3, none⟩) (Kept.setCell (p := ⟨b, 4 + j * 5 + 2, none⟩) (Kept.setCell (p := ⟨b, 4 + j * 5 + 1, none⟩) (Kept.setCell (p := ⟨b, 4 + j * 5, none⟩) (Kept.refl _ _ _) (.inl hm) _) (.inl hm) _) (.inl hm) _) (.inl hm) _) (.inl hm) _)
    (fun _ h => .inl h)
theorem HG.setWord {w0 w : World} {A : GAd} {P : Pm} {V : GVl} {G : GS} {ts : List Thing} (H : HG w0 w A P V G ts) (k v : Nat) (hv : v < 2 ^ 64) :
    HG w0 (w.setCell ⟨A.fb, k, none⟩ (.int .u64 (v : Int))) A P V { G with s := { G.s with mem := G.s.mem.set k v } } ts := by
  have hh := H.host
  have n1 : A.fp ≠ A.fb := hh.hdr.ne hh.row (by decide)
  have h1 : Hold w0 (w.setCell ⟨A.fb, k, none⟩ (.int .u64 (v : Int))) _ := Hold.step H 0 (hst A P (G.s.mem.set k v)) rfl
    ⟨hh.hdr.other n1 _, by have := hh.row.set k (.int .u64 (v : Int)); rw [show (Value.int .u64 (v : Int)) = u64 v from rfl, ← List.map_set] at this; exact this, by rw [List.length_set]; exact hh.len, hh.small, fun x hx => by
      rcases List.mem_or_eq_of_mem_set hx with h | h
      · exact hh.bd x h
      · omega⟩ (Kept.setCell (p := ⟨A.fb, k, none⟩) (Kept.refl _ _ _) (.inl (.inr rfl)) _) (fun _ h => .inl h)
  have hs : SX (w.setCell ⟨A.fb, k, none⟩ (.int .u64 (v : Int))) P A V G.s := h1.at 2 rfl
  exact h1.weak 2 (stor A P V { G.s with mem := G.s.mem.set k v }) rfl (hs.mem _ (by simp)) (fun _ h => h)
end Go.Proofs.YtglohconhbcchaaGreatDoor

namespace Go.Proofs.YtglohconhbcchaaGreatDoor
open Go.RowKit Go.Shelf

theorem pteV_lt (d : Int) (r : Rt) : pteV d r < 2 ^ 64 := by
  unfold pteV
  split
  · rename_i h
    have : d.toNat < 1048576 := by omega
    cases r.w <;> cases r.u <;> cases r.x <;> simp <;> omega
  · simp
theorem slotV_lt (x : Slt) (d : Int) : slotV x d < 2 ^ 64 := by
  unfold slotV
  split
  · simp
  · exact pteV_lt d x.r
set_option maxRecDepth 100000 in
set_option maxHeartbeats 2000000 in
theorem put_h {w0 w : World} {A : GAd} {P : Pm} {V : GVl} {G : GS} {ts : List Thing} (H : HG w0 w A P V G ts) (f i : Int) (y : Slt) (hy : sslot G.s.ps f i = some y) (xk xd : Int) (xw xu xx : Bool) (d : Int) :
    Calls Tryz.prog 177 #[.pointer (some ⟨A.sp, 0, none⟩), .int .i64 f, .int .i64 i, .agg #[.int .i64 xk, .int .i64 xd, .bool xw, .bool xu, .bool xx], .int .i64 d] w
      fun e w' => e = .returned (.bool true) ∧ HG w0 w' A P V { G with s := sput G.s f i ⟨xk, xd, ⟨xw, xu, xx⟩⟩ d } ts := by
  obtain ⟨j, k, b, p, rfl, hj, hk, hkp, hkb, hbl, hpf, hpm, h8, hx⟩ := H.sx.slot hy
  have hpos := H.inv.pos p hpm
  obtain ⟨fn, rfl⟩ : ∃ fn : Nat, f = (fn : Int) := Int.eq_ofNat_of_zero_le (by omega)
  have hfl : fn < P.n := by have h1 := H.inv.fr; have h2 := H.inv.top; omega
  have b0 := bal w (.cells #[.int .i64 xk, .int .i64 xd, .bool xw, .bool xu, .bool xx] 64)
  have hz := Blk.new w 64 [.int .i64 xk, .int .i64 xd, .bool xw, .bool xu, .bool xx]
  obtain ⟨wz, hwz⟩ : ∃ wz, w.alloc (.cells #[.int .i64 xk, .int .i64 xd, .bool xw, .bool xu, .bool xx] 64) = wz := ⟨_, rfl⟩
  rw [show (w.alloc (.cells [Value.int .i64 xk, .int .i64 xd, .bool xw, .bool xu, .bool xx].toArray 64)) = wz from hwz] at hz
  rw [hwz] at b0
  have H1 := H.past b0
  have hs := slot_yes H1.drew.sx (fn : Int) j k b hk hkb hj
  have hcs := fun W (hW : Below wz.drew.heap.size wz.drew W) => slot_cells ((hbl.past b0).past (((Below.refl _ wz).drew).trans hW)) h8 j hj y hx
  have hfr := fun W (hW : Below wz.drew.heap.size wz.drew W) k' => ((hbl.past b0).past (((Below.refl _ wz).drew).trans hW)).free k'
  obtain ⟨zb, hzb⟩ : ∃ zb, w.heap.size = zb := ⟨_, rfl⟩
  have hbz : b < zb := by rw [← hzb]; exact hbl.lt
  have hne1 : b ≠ zb := by omega
  have hne2 : zb ≠ b := by omega
  obtain ⟨yk, yd, ⟨yw, yu, yx⟩⟩ := y
  rw [hzb] at hz
  have z0 := hz.cell (k := 0) rfl
  have z1 := hz.cell (k := 1) rfl
  have z2 := hz.cell (k := 2) rfl
  have z3 := hz.cell (k := 3) rfl
  have z4 := hz.cell (k := 4) rfl
  have lz := hz.lt
  have HSl := Lib.hid hs
  have HCs := Lib.hid hcs
  have HFr := Lib.hid hfr
  have HH := Lib.hid H1
  have HZ := Lib.hid hz
  have HW := Lib.hid hwz
  have HZB := Lib.hid hzb
  have HKp := Lib.hid hkp
  have HKb := Lib.hid hkb
  have HPf := Lib.hid hpf
  clear hs hcs hfr H1 hz hwz hzb H hbl hk b0 hy hpm hx h8 hpos hkp hkb hpf
  go_enter Tryz.func177, Tryz.ntmps177
  go_wp2_with fail
  rw [HW.out, HZB.out]
  go_region_held3 (fun w' => w'.cell? ⟨zb, 0, none⟩ = some (.int .i64 xk) ∧ w'.cell? ⟨zb, 1, none⟩ = some (.int .i64 xd) ∧ w'.cell? ⟨zb, 2, none⟩ = some (.bool xw) ∧ w'.cell? ⟨zb, 3, none⟩ = some (.bool xu) ∧ w'.cell? ⟨zb, 4, none⟩ = some (.bool xx)) (go_keep)
    (first | (go_at_call 69; (with_reducible refine HSl.out.mono ?_); rintro e W1 ⟨rfl, b1⟩; obtain ⟨p0, p1, p2, p3, p4⟩ := HCs.out W1 b1; have pf := HFr.out W1 b1; have q1 := ((Below.refl _ wz).drew).trans b1; have HZ1 := HZ.out.past q1; have z0' := HZ1.cell (k := 0) rfl; have z1' := HZ1.cell (k := 1) rfl; have z2' := HZ1.cell (k := 2) rfl; have z3' := HZ1.cell (k := 3) rfl; have z4' := HZ1.cell (k := 4) rfl))
  have H2 := (HH.out.drew.past b1).setSlot ⟨xk, xd, ⟨xw, xu, xx⟩⟩ (i := (j : Int)) rfl hj HKp.out HKb.out HPf.out
  have HZ2 := ((((HZ1.other (a := ⟨b, 4 + j * 5, none⟩) hne2 (.int .i64 xk)).other (a := ⟨b, 4 + j * 5 + 1, none⟩) hne2 (.int .i64 xd)).other (a := ⟨b, 4 + j * 5 + 2, none⟩) hne2 (.bool xw)).other (a := ⟨b, 4 + j * 5 + 3, none⟩) hne2 (.bool xu)).other (a := ⟨b, 4 + j * 5 + 4, none⟩) hne2 (.bool xx)
  dsimp only at H2
  obtain ⟨W2, hW2⟩ : ∃ W2, ((((W1.setCell ⟨b, 4 + j * 5, none⟩ (.int .i64 xk)).setCell ⟨b, 4 + j * 5 + 1, none⟩ (.int .i64 xd)).setCell ⟨b, 4 + j * 5 + 2, none⟩ (.bool xw)).setCell ⟨b, 4 + j * 5 + 3, none⟩ (.bool xu)).setCell ⟨b, 4 + j * 5 + 4, none⟩ (.bool xx) = W2 := ⟨_, rfl⟩
  rw [hW2] at H2 HZ2 ⊢
  clear hW2 z0' z1' z2' z3' z4' HZ1 p0 p1 p2 p3 p4 pf q1 b1 z0 z1 z2 z3 z4 lz
  have z0 := HZ2.cell (k := 0) rfl
  have z1 := HZ2.cell (k := 1) rfl
  have z2 := HZ2.cell (k := 2) rfl
  have z3 := HZ2.cell (k := 3) rfl
  have z4 := HZ2.cell (k := 4) rfl
  have lz := HZ2.lt
  have hput := fun W => pput_any W d xw xu (!xx) ⟨xw, xu, xx⟩ (by simp)
  have hlt := slotV_lt ⟨xk, xd, ⟨xw, xu, xx⟩⟩ d
  obtain ⟨sv, hsv⟩ : ∃ sv, slotV ⟨xk, xd, ⟨xw, xu, xx⟩⟩ d = sv := ⟨_, rfl⟩
  obtain ⟨pv, hpv⟩ : ∃ pv, pteV d ⟨xw, xu, xx⟩ = pv := ⟨_, rfl⟩
  have hcase : (xk = 0 → sv = 0) ∧ (xk ≠ 0 → sv = pv) := by
    rw [← hsv, ← hpv]
    unfold slotV
    exact ⟨fun e => if_pos e, fun e => if_neg e⟩
  rw [hpv] at hput
  rw [hsv] at hlt
  have hset := fun W (hW : Below W2.heap.size W2 W) => hset_yes W A.fp A.fb P.n G.s.mem (H2.past hW).host fn j sv hfl hj
  have hfin := fun W (hW : Below W2.heap.size W2 W) => (H2.past hW).setWord (fn * 8 + j) sv hlt
  have hhd := fun W (hW : Below W2.heap.size W2 W) => (H2.past hW).sx.hdr.cell (k := 0) rfl
  have lsp := H2.sx.hdr.lt
  have HPu := Lib.hid hput
  have HSe := Lib.hid hset
  have HFi := Lib.hid hfin
  have HHd := Lib.hid hhd
  have HZ2' := Lib.hid HZ2
  have HSv := Lib.hid hsv
  have hgoal : ({ G with s := sput G.s (fn : Int) (j : Int) ⟨xk, xd, ⟨xw, xu, xx⟩⟩ d } : GS) = { G with s := { G.s with ps := setS G.s.ps (fn : Int) j ⟨xk, xd, ⟨xw, xu, xx⟩⟩, mem := G.s.mem.set (fn * 8 + j) sv } } := by
    rw [← hsv]; rfl
  have HGl := Lib.hid hgoal
  have HC := Lib.hid hcase
  clear hput hset hfin hhd H2 HZ2 hsv hpv hcase hgoal
  by_cases hk0 : xk = 0
  · have e0 := HC.out.1 hk0
    subst e0
    subst hk0
    go_wp2_with (first
      | (go_at_call 207; (with_reducible refine (HPu.out _).mono ?_); rintro e W3 ⟨⟨pb, rfl⟩, b3⟩; have HZ3 := HZ2'.out.past b3; have y0 := HZ3.cell (k := 0) rfl; have ly := HZ3.lt; have hh := HHd.out W3 b3; have lh := Nat.lt_of_lt_of_le lsp b3.size)
      | (go_at_call 106; have hse0 : Calls Tryz.prog 106 #[.pointer (some ⟨A.fp, 0, none⟩), .int .i64 (fn : Int), .int .i64 (j : Int), .int .u64 0] W3 _ := HSe.out W3 b3; (with_reducible refine hse0.mono ?_); rintro e W4 ⟨rfl, rfl⟩))
    go_ret
    exact ⟨rfl, by rw [HGl.out]; exact HFi.out W3 b3⟩
  · have e0 := HC.out.2 hk0
    subst e0
    have f0 : (xk == 0) = false := beq_eq_false_iff_ne.2 hk0
    clear hk0
    go_wp2_with (first
      | (go_at_call 207; (with_reducible refine (HPu.out _).mono ?_); rintro e W3 ⟨⟨pb, rfl⟩, b3⟩; have HZ3 := HZ2'.out.past b3; have y0 := HZ3.cell (k := 0) rfl; have ly := HZ3.lt; have hh := HHd.out W3 b3; have lh := Nat.lt_of_lt_of_le lsp b3.size)
      | (go_at_call 106; (with_reducible refine (HSe.out W3 b3).mono ?_); rintro e W4 ⟨rfl, rfl⟩))
    go_ret
    exact ⟨rfl, by rw [HGl.out]; exact HFi.out W3 b3⟩

set_option maxRecDepth 100000 in
set_option maxHeartbeats 1000000 in
/-- Clear -/
theorem clear_h {w0 w : World} {A : GAd} {P : Pm} {V : GVl} {G : GS} {ts : List Thing} (H : HG w0 w A P V G ts) (f i : Int) :
    Calls Tryz.prog 114 #[.pointer (some ⟨A.sp, 0, none⟩), .int .i64 f, .int .i64 i] w
      fun e w' => e = .returned (.bool (sclear G.s f i).1) ∧ HG w0 w' A P V { G with s := (sclear G.s f i).2 } ts := by
  cases hy : sslot G.s.ps f i with
  | none =>
    have e : sclear G.s f i = (false, G.s) := by unfold sclear; rw [hy]
    rw [e]
    have hs := slot_no H.sx f i hy
    have HS := Lib.hid hs
    have HH := Lib.hid H
    clear hs H hy e
    go_enter Tryz.func114, Tryz.ntmps114
    go_wp2_with (go_at_call 69; (with_reducible refine HS.out.mono ?_); rintro e W1 ⟨rfl, b1⟩)
    go_ret
    exact ⟨rfl, HH.out.past b1⟩
  | some y =>
    obtain ⟨j, k, b, p, rfl, hj, hk, hkp, hkb, hbl, hpf, hpm, h8, hx⟩ := H.sx.slot hy
    have hs := slot_yes H.sx f j k b hk hkb hj
    have hcs := fun W (hW : Below w.heap.size w W) => (slot_cells (hbl.past hW) h8 j hj y hx).1
    have hput := fun W (hW : Below w.heap.size w W) => put_h (H.past hW) f (j : Int) y hy 0 0 false false false 0
    have lb := hbl.lt
    have hsc : sclear G.s f (j : Int) = if y.kind = 0 then (false, G.s) else (true, sput G.s f (j : Int) slt0 0) := by unfold sclear; rw [hy]
    rw [hsc]
    obtain ⟨yk, yd, yr⟩ := y
    dsimp only at hcs ⊢
    have HS := Lib.hid hs
    have HCs := Lib.hid hcs
    have HPu := Lib.hid hput
    have HH := Lib.hid H
    clear hs hcs hput H hbl hk hkp hkb hpf hpm h8 hx hsc hy
    by_cases hk0 : yk = 0
    · subst hk0
      rw [if_pos rfl]
      go_enter Tryz.func114, Tryz.ntmps114
      go_wp2_with (go_at_call 69; (with_reducible refine HS.out.mono ?_); rintro e W1 ⟨rfl, b1⟩; have c0 := HCs.out W1 b1; have lb1 := Nat.lt_of_lt_of_le lb b1.size)
      go_ret
      exact ⟨rfl, HH.out.past b1⟩
    · rw [if_neg hk0]
      have f0 : (yk == 0) = false := beq_eq_false_iff_ne.2 hk0
      have f1 : (yk != 0) = true := bne_iff_ne.2 hk0
      go_enter Tryz.func114, Tryz.ntmps114
      go_wp2_with (first
        | (go_at_call 69; (with_reducible refine HS.out.mono ?_); rintro e W1 ⟨rfl, b1⟩; have c0 := HCs.out W1 b1; have lb1 := Nat.lt_of_lt_of_le lb b1.size)
        | (go_at_call 177; (with_reducible refine (HPu.out W1 b1).mono ?_); rintro e W2 ⟨rfl, h2⟩))
      go_ret
      exact ⟨rfl, h2⟩
set_option maxRecDepth 100000 in
set_option maxHeartbeats 2000000 in
/-- Child -/
theorem child_h {w0 w : World} {A : GAd} {P : Pm} {V : GVl} {G : GS} {ts : List Thing} (H : HG w0 w A P V G ts) (f i c : Int) (rw' ru rx : Bool) :
    Calls Tryz.prog 134 #[.pointer (some ⟨A.sp, 0, none⟩), .int .i64 f, .int .i64 i, .int .i64 c, .agg #[.bool rw', .bool ru, .bool rx]] w
      fun e w' => e = .returned (.bool (schild G.s f i c ⟨rw', ru, rx⟩).1) ∧ HG w0 w' A P V { G with s := (schild G.s f i c ⟨rw', ru, rx⟩).2 } ts := by
  have bR := bal w (.cells #[.bool rw', .bool ru, .bool rx] 48)
  obtain ⟨w1, hw1⟩ : ∃ w1, w.alloc (.cells #[.bool rw', .bool ru, .bool rx] 48) = w1 := ⟨_, rfl⟩
  have hr := Blk.new w 48 [.bool rw', .bool ru, .bool rx]
  rw [show (w.alloc (.cells [Value.bool rw', .bool ru, .bool rx].toArray 48)) = w1 from hw1] at hr
  rw [hw1] at bR
  have H1 := H.past bR
  obtain ⟨ok, hok⟩ : ∃ o, skey G.s.ps f = o := ⟨_, rfl⟩
  obtain ⟨oc, hoc⟩ : ∃ o, skey G.s.ps c = o := ⟨_, rfl⟩
  have hkf := fun W (hW : Below w1.heap.size w1 W) => skey_any (H1.past hW).sx f ok hok
  have hkc := fun W (hW : Below w1.heap.size w1 W) => skey_any (H1.past hW).sx c oc hoc
  have hlv : ∀ q, ok = some q → 1 ≤ q.lv ∧ q.lv ≤ 3 := fun q e => by
    rw [e] at hok
    obtain ⟨p, hp, _, e, _⟩ := skey_some hok
    have := H.inv.kr p hp
    rw [e] at this
    unfold kright at this
    simp only [Bool.and_eq_true, decide_eq_true_eq] at this
    exact ⟨this.1.1.1.1, this.1.1.1.2⟩
  obtain ⟨ob, hob⟩ : ∃ ob, w.heap.size = ob := ⟨_, rfl⟩
  rw [hob] at hr
  obtain ⟨⟨kg, kv, kr⟩, hko⟩ : ∃ q, ok.getD key0 = q := ⟨_, rfl⟩
  obtain ⟨⟨cg, cv, cr⟩, hco⟩ : ∃ q, oc.getD key0 = q := ⟨_, rfl⟩
  rw [hko] at hkf
  rw [hco] at hkc
  dsimp only at hkf hkc
  obtain ⟨bc, hbc⟩ : ∃ b, oc.isSome = b := ⟨_, rfl⟩
  rw [hbc] at hkc
  obtain ⟨bk, hbk⟩ : ∃ b, ok.isSome = b := ⟨_, rfl⟩
  rw [hbk] at hkf
  have HKf := Lib.hid hkf
  have HKc := Lib.hid hkc
  have HR := Lib.hid hr
  have HW := Lib.hid hw1
  have HOB := Lib.hid hob
  have HH1 := Lib.hid H1
  clear hkf hkc hr bR hw1 hob
  cases hy : sslot G.s.ps f i with
  | none =>
    have e : schild G.s f i c ⟨rw', ru, rx⟩ = (false, G.s) := by unfold schild; rw [hy]
    rw [e]
    have hs := fun W (hW : Below w1.heap.size w1 W) => slot_no (H1.past hW).sx f i hy
    have HS := Lib.hid hs
    clear hs H H1 hy e hlv hok hoc hko hco hbc hbk
    go_enter Tryz.func134, Tryz.ntmps134
    go_wp2_with fail
    rw [HW.out, HOB.out]
    go_wp2_with (first
      | (go_at_call 22; (with_reducible refine (HKf.out _ (Below.refl _ _)).mono ?_); rintro e W1 ⟨rfl, b1⟩; have q1 := b1.trans ((bal W1 (.cells #[.int .i64 kg, .int .i64 kv, .int .i64 kr] 54)).mono b1.size))
      | (go_at_call 22; (with_reducible refine (HKc.out _ q1).mono ?_); rintro e W2 ⟨rfl, b2⟩; have q2 := (q1.trans (b2.mono q1.size)).trans ((bal W2 (.cells #[.int .i64 cg, .int .i64 cv, .int .i64 cr] 54)).mono ((q1.trans (b2.mono q1.size))).size))
      | (go_at_call 69; (with_reducible refine (HS.out _ q2).mono ?_); rintro e W3 ⟨rfl, b3⟩))
    go_ret
    exact ⟨rfl, HH1.out.past (q2.trans (b3.mono q2.size))⟩
  | some y =>
    obtain ⟨j, k, b, p, rfl, hj, hk, hkp, hkb, hbl, hpf, hpm, h8, hx⟩ := H.sx.slot hy
    have hs := fun W (hW : Below w1.heap.size w1 W) => slot_yes (H1.past hW).sx f j k b hk hkb hj
    have hput := fun W (hW : Below w1.heap.size w1 W) => put_h (H1.past hW) f (j : Int) y hy 1 c rw' ru rx c
    have hscN : oc = none → schild G.s f (j : Int) c ⟨rw', ru, rx⟩ = (false, G.s) := fun e => by unfold schild; rw [hy, hoc, e]
    have hscS : ∀ kc, oc = some kc → schild G.s f (j : Int) c ⟨rw', ru, rx⟩ = if kc.lv = (ok.getD ⟨0, 0, 0⟩).lv - 1 then (true, sput G.s f (j : Int) ⟨1, c, ⟨rw', ru, rx⟩⟩ c) else (false, G.s) := fun kc e => by unfold schild; rw [hy, hoc, e, hok]
    obtain ⟨kf, hkf⟩ : ∃ q, ok = some q := by rw [← hok]; exact sslot_key hy
    have hlk := hlv kf hkf
    have hkv : kf = ⟨kg, kv, kr⟩ := by rw [← hko, hkf]; rfl
    subst hkv
    dsimp only at hlk
    have hw2 : IntKind.i64.wrap (kv - 1) = kv - 1 := by rw [IntKind.wrap_i64]; omega
    rw [hkf] at hscS
    have HS := Lib.hid hs
    have HPu := Lib.hid hput
    have HScN := Lib.hid hscN
    have HScS := Lib.hid hscS
    clear hs hput H H1 hbl hk hkp hkb hpf hpm h8 hx hscN hscS hy hlv hok hoc hko hkf hbk
    cases oc with
    | none =>
      obtain rfl : bc = false := hbc.symm
      rw [HScN.out rfl]
      clear hco hbc
      go_enter Tryz.func134, Tryz.ntmps134
      go_wp2_with fail
      rw [HW.out, HOB.out]
      go_wp2_with (first
        | (go_at_call 22; (with_reducible refine (HKf.out _ (Below.refl _ _)).mono ?_); rintro e W1 ⟨rfl, b1⟩; have q1 := b1.trans ((bal W1 (.cells #[.int .i64 kg, .int .i64 kv, .int .i64 kr] 54)).mono b1.size))
        | (go_at_call 22; (with_reducible refine (HKc.out _ q1).mono ?_); rintro e W2 ⟨rfl, b2⟩; have q2 := (q1.trans (b2.mono q1.size)).trans ((bal W2 (.cells #[.int .i64 cg, .int .i64 cv, .int .i64 cr] 54)).mono ((q1.trans (b2.mono q1.size))).size))
        | (go_at_call 69; (with_reducible refine (HS.out _ q2).mono ?_); rintro e W3 ⟨rfl, b3⟩))
      go_ret
      exact ⟨rfl, HH1.out.past (q2.trans (b3.mono q2.size))⟩
    | some kc =>
      obtain rfl : bc = true := hbc.symm
      obtain rfl : kc = ⟨cg, cv, cr⟩ := hco
      rw [HScS.out _ rfl]
      clear hbc
      dsimp only [Option.getD_some]
      by_cases hl : cv = kv - 1
      · rw [if_pos hl]
        have f1 : (cv == kv - 1) = true := by rw [hl]; simp
        have f2 : (cv != kv - 1) = false := by rw [hl]; simp
        subst hl
        go_enter Tryz.func134, Tryz.ntmps134
        go_wp2_with fail
        rw [HW.out, HOB.out]
        go_wp2_with (first
          | (go_at_call 22; (with_reducible refine (HKf.out _ (Below.refl _ _)).mono ?_); rintro e W1 ⟨rfl, b1⟩; have q1 := b1.trans ((bal W1 (.cells #[.int .i64 kg, .int .i64 kv, .int .i64 kr] 54)).mono b1.size); have K1 := Blk.new W1 54 [.int .i64 kg, .int .i64 kv, .int .i64 kr])
          | (go_at_call 22; (with_reducible refine (HKc.out _ q1).mono ?_); rintro e W2 ⟨rfl, b2⟩; have q2 := (q1.trans (b2.mono q1.size)).trans ((bal W2 (.cells #[.int .i64 cg, .int .i64 (kv - 1), .int .i64 cr] 54)).mono ((q1.trans (b2.mono q1.size))).size); have K2 := Blk.new W2 54 [.int .i64 cg, .int .i64 (kv - 1), .int .i64 cr]; have b2' := b2.trans ((bal W2 (.cells #[.int .i64 cg, .int .i64 (kv - 1), .int .i64 cr] 54)).mono b2.size))
          | (go_at_call 69; (with_reducible refine (HS.out _ q2).mono ?_); rintro e W3 ⟨rfl, b3⟩; have q3 := q2.trans (b3.mono q2.size); have K1' := (K1.past b2').past b3; have K2' := K2.past b3; have e1 := K1'.cell (k := 1) rfl; have e2 := K2'.cell (k := 1) rfl; have HR3 := HR.out.past q3; have r0 := HR3.cell (k := 0) rfl; have r1 := HR3.cell (k := 1) rfl; have r2 := HR3.cell (k := 2) rfl; have lr := HR3.lt; have lk1 := K1'.lt; have lk2 := K2'.lt)
          | (go_at_call 177; (with_reducible refine (HPu.out W3 q3).mono ?_); rintro e W4 ⟨rfl, h4⟩))
        go_ret
        exact ⟨rfl, h4⟩
      · rw [if_neg hl]
        have f1 : (cv == kv - 1) = false := beq_eq_false_iff_ne.2 hl
        have f2 : (cv != kv - 1) = true := bne_iff_ne.2 hl
        go_enter Tryz.func134, Tryz.ntmps134
        go_wp2_with fail
        rw [HW.out, HOB.out]
        go_wp2_with (first
          | (go_at_call 22; (with_reducible refine (HKf.out _ (Below.refl _ _)).mono ?_); rintro e W1 ⟨rfl, b1⟩; have q1 := b1.trans ((bal W1 (.cells #[.int .i64 kg, .int .i64 kv, .int .i64 kr] 54)).mono b1.size); have K1 := Blk.new W1 54 [.int .i64 kg, .int .i64 kv, .int .i64 kr])
          | (go_at_call 22; (with_reducible refine (HKc.out _ q1).mono ?_); rintro e W2 ⟨rfl, b2⟩; have q2 := (q1.trans (b2.mono q1.size)).trans ((bal W2 (.cells #[.int .i64 cg, .int .i64 cv, .int .i64 cr] 54)).mono ((q1.trans (b2.mono q1.size))).size); have K2 := Blk.new W2 54 [.int .i64 cg, .int .i64 cv, .int .i64 cr]; have b2' := b2.trans ((bal W2 (.cells #[.int .i64 cg, .int .i64 cv, .int .i64 cr] 54)).mono b2.size))
          | (go_at_call 69; (with_reducible refine (HS.out _ q2).mono ?_); rintro e W3 ⟨rfl, b3⟩; have q3 := q2.trans (b3.mono q2.size); have K1' := (K1.past b2').past b3; have K2' := K2.past b3; have e1 := K1'.cell (k := 1) rfl; have e2 := K2'.cell (k := 1) rfl; have lk1 := K1'.lt; have lk2 := K2'.lt))
        go_ret
        exact ⟨rfl, HH1.out.past q3⟩
end Go.Proofs.YtglohconhbcchaaGreatDoor

namespace Go.Proofs.YtglohconhbcchaaGreatDoor
open Go.RowKit Go.Shelf Go.Maps

theorem frames_n (w : World) (fp fb n : Nat) (mem : List Nat) (H : Host w fp fb n mem) :
    Calls Tryz.prog 104 #[.pointer (some ⟨fp, 0, none⟩)] w fun e w' => e = .returned (.int .i64 (n : Int)) ∧ w = w' := by
  have a1 := H.hdr.cell (k := 0) rfl
  clear H
  go_enter Tryz.func104, Tryz.ntmps104
  go_wp2
  go_ret
  exact ⟨rfl, rfl⟩
set_option maxRecDepth 100000 in
set_option maxHeartbeats 2000000 in
/-- Leaf -/
theorem leaf_h {w0 w : World} {A : GAd} {P : Pm} {V : GVl} {G : GS} {ts : List Thing} (H : HG w0 w A P V G ts) (f i g h : Int) (rw' ru rx : Bool) :
    Calls Tryz.prog 136 #[.pointer (some ⟨A.sp, 0, none⟩), .int .i64 f, .int .i64 i, .int .i64 g, .int .i64 h, .agg #[.bool rw', .bool ru, .bool rx]] w
      fun e w' => e = .returned (.bool (sleaf P.n G.s f i g h ⟨rw', ru, rx⟩).1) ∧ HG w0 w' A P V { G with s := (sleaf P.n G.s f i g h ⟨rw', ru, rx⟩).2 } ts := by
  have bR := bal w (.cells #[.bool rw', .bool ru, .bool rx] 48)
  obtain ⟨w1, hw1⟩ : ∃ w1, w.alloc (.cells #[.bool rw', .bool ru, .bool rx] 48) = w1 := ⟨_, rfl⟩
  have hr := Blk.new w 48 [.bool rw', .bool ru, .bool rx]
  rw [show (w.alloc (.cells [Value.bool rw', .bool ru, .bool rx].toArray 48)) = w1 from hw1] at hr
  rw [hw1] at bR
  have H1 := H.past bR
  obtain ⟨ok, hok⟩ : ∃ o, skey G.s.ps f = o := ⟨_, rfl⟩
  have hkf := fun W (hW : Below w1.heap.size w1 W) => skey_any (H1.past hW).sx f ok hok
  obtain ⟨ob, hob⟩ : ∃ ob, w.heap.size = ob := ⟨_, rfl⟩
  rw [hob] at hr
  obtain ⟨⟨kg, kv, kr⟩, hko⟩ : ∃ q, ok.getD key0 = q := ⟨_, rfl⟩
  rw [hko] at hkf
  dsimp only at hkf
  obtain ⟨bk, hbk⟩ : ∃ b, ok.isSome = b := ⟨_, rfl⟩
  rw [hbk] at hkf
  have HKf := Lib.hid hkf
  have HR := Lib.hid hr
  have HW := Lib.hid hw1
  have HOB := Lib.hid hob
  have HH1 := Lib.hid H1
  clear hkf hr bR hw1 hob hbk
  cases hy : sslot G.s.ps f i with
  | none =>
    have e : sleaf P.n G.s f i g h ⟨rw', ru, rx⟩ = (false, G.s) := by unfold sleaf; rw [hy]
    rw [e]
    have hs := fun W (hW : Below w1.heap.size w1 W) => slot_no (H1.past hW).sx f i hy
    have HS := Lib.hid hs
    clear hs H H1 hy e hok hko
    go_enter Tryz.func136, Tryz.ntmps136
    go_wp2_with fail
    rw [HW.out, HOB.out]
    go_wp2_with (first
      | (go_at_call 22; (with_reducible refine (HKf.out _ (Below.refl _ _)).mono ?_); rintro e W1 ⟨rfl, b1⟩; have q1 := b1.trans ((bal W1 (.cells #[.int .i64 kg, .int .i64 kv, .int .i64 kr] 54)).mono b1.size))
      | (go_at_call 69; (with_reducible refine (HS.out _ q1).mono ?_); rintro e W3 ⟨rfl, b3⟩))
    go_ret
    exact ⟨rfl, HH1.out.past (q1.trans (b3.mono q1.size))⟩
  | some y =>
    obtain ⟨j, k, b, p, rfl, hj, hk, hkp, hkb, hbl, hpf, hpm, h8, hx⟩ := H.sx.slot hy
    have hs := fun W (hW : Below w1.heap.size w1 W) => slot_yes (H1.past hW).sx f j k b hk hkb hj
    have hput := fun W (hW : Below w1.heap.size w1 W) => put_h (H1.past hW) f (j : Int) y hy 2 g rw' ru rx h
    have hfr := fun W (hW : Below w1.heap.size w1 W) => frames_n W A.fp A.fb P.n G.s.mem (H1.past hW).host
    have hhd := fun W (hW : Below w1.heap.size w1 W) => (H1.past hW).sx.hdr.cell (k := 0) rfl
    have lsp := H1.sx.hdr.lt
    have hsm := H.inv.small
    have hsc : sleaf P.n G.s f (j : Int) g h ⟨rw', ru, rx⟩ = if kv = 1 ∧ 0 ≤ h ∧ h < P.n then (true, sput G.s f (j : Int) ⟨2, g, ⟨rw', ru, rx⟩⟩ h) else (false, G.s) := by
      unfold sleaf
      rw [hy, hok]
      rw [show (ok.getD ⟨0, 0, 0⟩) = ⟨kg, kv, kr⟩ from hko]
    rw [hsc]
    have HS := Lib.hid hs
    have HPu := Lib.hid hput
    have HFr := Lib.hid hfr
    have HHd := Lib.hid hhd
    clear hs hput hfr hhd H H1 hbl hk hkp hkb hpf hpm h8 hx hsc hy hok hko
    by_cases hl : kv = 1
    · subst hl
      by_cases h0 : h < 0
      · rw [if_neg (by omega)]
        go_enter Tryz.func136, Tryz.ntmps136
        go_wp2_with fail
        rw [HW.out, HOB.out]
        go_wp2_with (first
          | (go_at_call 22; (with_reducible refine (HKf.out _ (Below.refl _ _)).mono ?_); rintro e W1 ⟨rfl, b1⟩; have q1 := b1.trans ((bal W1 (.cells #[.int .i64 kg, .int .i64 1, .int .i64 kr] 54)).mono b1.size); have K1 := Blk.new W1 54 [.int .i64 kg, .int .i64 1, .int .i64 kr])
          | (go_at_call 69; (with_reducible refine (HS.out _ q1).mono ?_); rintro e W3 ⟨rfl, b3⟩; have K1' := K1.past b3; have e1 := K1'.cell (k := 1) rfl; have lk1 := K1'.lt))
        go_ret
        exact ⟨rfl, HH1.out.past (q1.trans (b3.mono q1.size))⟩
      · by_cases hn : h < P.n
        · rw [if_pos ⟨rfl, by omega, hn⟩]
          have f0 : decide (h < 0) = false := decide_eq_false h0
          have f1 : decide ((P.n : Int) ≤ h) = false := decide_eq_false (by omega)
          obtain ⟨pn, hpn⟩ : ∃ z : Int, (P.n : Int) = z := ⟨_, rfl⟩
          rw [hpn] at f1
          clear hn h0
          go_enter Tryz.func136, Tryz.ntmps136
          go_wp2_with fail
          rw [HW.out, HOB.out]
          go_wp2_with (first
            | (go_at_call 22; (with_reducible refine (HKf.out _ (Below.refl _ _)).mono ?_); rintro e W1 ⟨rfl, b1⟩; have q1 := b1.trans ((bal W1 (.cells #[.int .i64 kg, .int .i64 1, .int .i64 kr] 54)).mono b1.size); have K1 := Blk.new W1 54 [.int .i64 kg, .int .i64 1, .int .i64 kr])
            | (go_at_call 69; (with_reducible refine (HS.out _ q1).mono ?_); rintro e W3 ⟨rfl, b3⟩; have q3 := q1.trans (b3.mono q1.size); have K1' := K1.past b3; have e1 := K1'.cell (k := 1) rfl; have lk1 := K1'.lt; have HR3 := HR.out.past q3; have r0 := HR3.cell (k := 0) rfl; have r1 := HR3.cell (k := 1) rfl; have r2 := HR3.cell (k := 2) rfl; have lr := HR3.lt; have hh := HHd.out W3 q3; have lh := Nat.lt_of_lt_of_le lsp q3.size)
            | (go_at_call 104; (with_reducible refine (HFr.out W3 q3).mono ?_); rintro e W4 ⟨rfl, rfl⟩; rw [hpn])
            | (go_at_call 177; (with_reducible refine (HPu.out W3 q3).mono ?_); rintro e W4 ⟨rfl, h4⟩))
          go_ret
          exact ⟨rfl, h4⟩
        · rw [if_neg (fun e => hn e.2.2)]
          have f0 : decide (h < 0) = false := decide_eq_false h0
          have f1 : decide ((P.n : Int) ≤ h) = true := decide_eq_true (by omega)
          obtain ⟨pn, hpn⟩ : ∃ z : Int, (P.n : Int) = z := ⟨_, rfl⟩
          rw [hpn] at f1
          clear hn h0
          go_enter Tryz.func136, Tryz.ntmps136
          go_wp2_with fail
          rw [HW.out, HOB.out]
          go_wp2_with (first
            | (go_at_call 22; (with_reducible refine (HKf.out _ (Below.refl _ _)).mono ?_); rintro e W1 ⟨rfl, b1⟩; have q1 := b1.trans ((bal W1 (.cells #[.int .i64 kg, .int .i64 1, .int .i64 kr] 54)).mono b1.size); have K1 := Blk.new W1 54 [.int .i64 kg, .int .i64 1, .int .i64 kr])
            | (go_at_call 69; (with_reducible refine (HS.out _ q1).mono ?_); rintro e W3 ⟨rfl, b3⟩; have q3 := q1.trans (b3.mono q1.size); have K1' := K1.past b3; have e1 := K1'.cell (k := 1) rfl; have lk1 := K1'.lt; have hh := HHd.out W3 q3; have lh := Nat.lt_of_lt_of_le lsp q3.size)
            | (go_at_call 104; (with_reducible refine (HFr.out W3 q3).mono ?_); rintro e W4 ⟨rfl, rfl⟩; rw [hpn]))
          go_ret
          exact ⟨rfl, HH1.out.past q3⟩
    · rw [if_neg (fun e => hl e.1)]
      have f1 : (kv == 1) = false := beq_eq_false_iff_ne.2 hl
      have f2 : (kv != 1) = true := bne_iff_ne.2 hl
      go_enter Tryz.func136, Tryz.ntmps136
      go_wp2_with fail
      rw [HW.out, HOB.out]
      go_wp2_with (first
        | (go_at_call 22; (with_reducible refine (HKf.out _ (Below.refl _ _)).mono ?_); rintro e W1 ⟨rfl, b1⟩; have q1 := b1.trans ((bal W1 (.cells #[.int .i64 kg, .int .i64 kv, .int .i64 kr] 54)).mono b1.size); have K1 := Blk.new W1 54 [.int .i64 kg, .int .i64 kv, .int .i64 kr])
        | (go_at_call 69; (with_reducible refine (HS.out _ q1).mono ?_); rintro e W3 ⟨rfl, b3⟩; have K1' := K1.past b3; have e1 := K1'.cell (k := 1) rfl; have lk1 := K1'.lt))
      go_ret
      exact ⟨rfl, HH1.out.past (q1.trans (b3.mono q1.size))⟩
end Go.Proofs.YtglohconhbcchaaGreatDoor
