/- The law's operations, as functions. The law's writable. -/
import Derived.Test.YtldmlmojokicaaaGm
import Derived.Test.YtldmlmojokicaaaGk
import Derived.Test.YtldmlmojokicaaaTlb2
namespace Go.Proofs.Ytldmlmojokicaaa
open Go.RowKit Go.Shelf Go.Maps

structure Opg where
  k : Int
  kg : Int
  kv : Int
  kr : Int
  p : Int
  i : Int
  g : Int
  r : Rt
  v : Nat
  deriving DecidableEq
def Opg.cells (o : Opg) : List Value := [.int .i64 o.k, .int .i64 o.kg, .int .i64 o.kv, .int .i64 o.kr, .int .i64 o.p, .int .i64 o.i, .int .i64 o.g, .bool o.r.w, .bool o.r.u, .bool o.r.x, .int .u64 (o.v : Int)]
def hof (g : Int) : Int := IntKind.i64.wrap (24 + bits .and .i64 g 15)
/-- one operation of the law -/
def gdo (P : Pm) (G : GS) (o : Opg) : (Int × Bool) × GS :=
  if o.k = 0 ∨ o.k = 1 then (((gmake P G ⟨o.kg, o.kv, o.kr⟩).1.getD 0, (gmake P G ⟨o.kg, o.kv, o.kr⟩).1.isSome), (gmake P G ⟨o.kg, o.kv, o.kr⟩).2)
  else if o.k = 2 ∨ o.k = 3 then ((0, (schild G.s o.p o.i o.g o.r).1), { G with s := (schild G.s o.p o.i o.g o.r).2 })
  else if o.k = 4 ∨ o.k = 5 then ((0, (sleaf P.n G.s o.p o.i o.g (hof o.g) o.r).1), { G with s := (sleaf P.n G.s o.p o.i o.g (hof o.g) o.r).2 })
  else if o.k = 6 then ((0, (gzap G o.p o.i).1), (gzap G o.p o.i).2)
  else if o.k = 7 then ((0, true), gword G o.g o.i)
  else if o.k = 8 then ((0, (gloosen G o.g).1), (gloosen G o.g).2)
  else if o.k = 9 then ((0, (glook P G o.g).1), (glook P G o.g).2)
  else if o.k = 10 then ((0, true), gall P G)
  else if o.k = 11 then ((0, (gdrop G o.p).1), (gdrop G o.p).2)
  else if o.k = 12 then ((0, (place P.hosts o.g o.i).isSome), { G with s := { G.s with mem := wr P.hosts G.s.mem o.g o.i o.v } })
  else if o.k = 13 then ((0, true), { G with l := tput P.most G.l ⟨0, o.i, o.p, ⟨false, false, false⟩, false⟩ })
  else ((0, true), G)
theorem tput_len (most : Nat) (l : List Hit) (x : Hit) (h : l.length ≤ most) (hm : 1 ≤ most) : (tput most l x).length ≤ most := by
  have h1 : (tdrop l x.asid x.page).length ≤ l.length := (List.eraseP_sublist ..).length_le
  unfold tput
  rw [List.length_append, List.length_singleton]
  split
  · rw [List.length_drop]; omega
  · omega
theorem tput_h {w0 w : World} {A : GAd} {P : Pm} {V : GVl} {G : GS} {ts : List Thing} (H : HG w0 w A P V G ts) (hm : 1 ≤ P.most) (x : Hit) :
    Calls Try.prog 18 #[.pointer (some ⟨A.tp, 0, none⟩), .agg #[.int .i64 x.asid, .int .i64 x.page, .int .i64 x.frame, .bool x.r.w, .bool x.r.u, .bool x.r.x, .bool x.dirty]] w
      fun e w' => (∃ r, e = .returned r) ∧ ∃ V', HG w0 w' A P V' { G with l := tput P.most G.l x } ts := by
  have hx := H.tx
  have h1 := hx.le
  have h2 := hx.small
  refine (tlbPut_any w A.tp P.most V.tv G.l x hx.t (by omega) hm (by omega)).mono ?_
  rintro e w' ⟨hr, v', ht, ho, hk⟩
  exact ⟨hr, _, H.setTlb _ _ ⟨ht, tput_len _ _ _ h1 hm, h2⟩ hk ho⟩
def wldC (A : GAd) : List Value := [.pointer (some ⟨A.fp, 0, none⟩), .pointer (some ⟨A.p, 0, none⟩), .pointer (some ⟨A.sp, 0, none⟩), .pointer (some ⟨A.tp, 0, none⟩), .pointer (some ⟨A.dp, 0, none⟩)]
theorem HG.wd {w0 w : World} {A : GAd} {P : Pm} {V : GVl} {G : GS} {ts : List Thing} {wb : Nat} (H : HG w0 w A P V G (wld wb A :: ts)) : Blk w wb 34 (wldC A) := H.top
theorem HG.wd2 {w0 w : World} {A : GAd} {P : Pm} {V : GVl} {G : GS} {ts : List Thing} {wb : Nat} {t : Thing} (H : HG w0 w A P V G (t :: wld wb A :: ts)) : Blk w wb 34 (wldC A) := H.top2
end Go.Proofs.Ytldmlmojokicaaa

namespace Go.Proofs.Ytldmlmojokicaaa
open Go.RowKit Go.Shelf Go.Maps

def gwrit (G : GS) (g : Int) : Bool := (stold G.s.ps 2 g).any fun a => ((sslot G.s.ps a.1 a.2).getD slt0).r.w
set_option maxRecDepth 100000 in
set_option maxHeartbeats 2000000 in
theorem gwrit_any {w0 w : World} {A : GAd} {P : Pm} {V : GVl} {G : GS} {ts : List Thing} {wb : Nat} (H : HG w0 w A P V G (wld wb A :: ts)) (g : Int) :
    Calls Try.prog 19 #[.pointer (some ⟨wb, 0, none⟩), .int .i64 g] w
      fun e w' => e = .returned (.bool (gwrit G g)) ∧ Below w.heap.size w w' := by
  have hle := leaves_any H.sx g
  have hsl := stold_len H.inv 2 g
  have c2 := H.wd.cell (k := 2) rfl
  have ld := H.wd.lt
  have hp : gwrit G g = (stold G.s.ps 2 g).any fun a => ((sslot G.s.ps a.1 a.2).getD slt0).r.w := rfl
  rw [hp]
  obtain ⟨L, hL⟩ : ∃ L, stold G.s.ps 2 g = L := ⟨_, rfl⟩
  rw [hL] at hle hsl ⊢
  obtain ⟨n, hn⟩ : ∃ n, L.length = n := ⟨_, rfl⟩
  rw [hn] at hsl
  obtain ⟨R, hR⟩ : ∃ R, (L.any fun a => ((sslot G.s.ps a.1 a.2).getD slt0).r.w) = R := ⟨_, rfl⟩
  rw [hR]
  have HLe := Lib.hid hle
  have HH := Lib.hid H
  have HN := Lib.hid hn
  have HR := Lib.hid hR
  clear hle H hp hL hn hR
  go_enter Try.func19, Try.ntmps19
  go_wp2_with (go_at_call 56; (with_reducible refine HLe.out.mono ?_); rintro e W1 ⟨⟨v, rfl, hv⟩, b1⟩; obtain ⟨a, c, rfl⟩ := hv.form; have HV := Lib.hid hv; clear hv; have HB1 := Lib.hid b1; clear b1)
  rw [HN.out] at HV ⊢
  go_loopw [6, 7, 8] (fun k _ _ wr => ∃ m : Nat, m ≤ n ∧ k = .int .i64 m ∧ ((L.take m).any fun a => ((sslot G.s.ps a.1 a.2).getD slt0).r.w) = false ∧ Below W1.heap.size W1 wr) (fun k _ _ _ => n - (intOf k).toNat)
  case atStart => exact ⟨0, by omega, rfl, by simp, Below.refl _ _⟩
  case round =>
    obtain ⟨m, hm, rfl, hno, hB⟩ := hrel
    have hBw := HB1.out.trans (hB.mono HB1.out.size)
    by_cases hmn : m < n
    · have hmL : m < L.length := by rw [HN.out]; exact hmn
      obtain ⟨bb, cc, hv, lb, d0, d1⟩ := NewA.cell (HV.out.past hB) m hmL
      rw [HN.out] at hv
      obtain ⟨rfl, rfl⟩ : a = some ⟨bb, 0, none⟩ ∧ c = cc := by injection hv with h1 h2 h3; exact ⟨h1, h3⟩
      have H3 := HH.out.past hBw
      have htk : ((L.take (m + 1)).any fun a => ((sslot G.s.ps a.1 a.2).getD slt0).r.w) = ((sslot G.s.ps (L.getD m (0, 0)).1 (L.getD m (0, 0)).2).getD slt0).r.w := by
        rw [List.take_add_one, List.any_append, hno, List.getElem?_eq_getElem hmL, List.getD, List.getElem?_eq_getElem hmL]; simp
      have hyes : ((sslot G.s.ps (L.getD m (0, 0)).1 (L.getD m (0, 0)).2).getD slt0).r.w = true → R = true := fun h => by
        rw [← HR.out]
        rw [List.getD, List.getElem?_eq_getElem hmL] at h
        exact List.any_eq_true.2 ⟨_, List.getElem_mem hmL, h⟩
      obtain ⟨⟨x1, x2⟩, hx⟩ : ∃ x, L.getD m (0, 0) = x := ⟨_, rfl⟩
      rw [hx] at d0 d1 htk hyes
      dsimp only at d0 d1 htk hyes
      obtain ⟨o, ho⟩ : ∃ o, sslot G.s.ps x1 x2 = o := ⟨_, rfl⟩
      rw [ho] at htk hyes
      have hst := fun W (hW : Below wr.heap.size wr W) => sslot_any (H3.past hW).sx x1 x2 o ho
      obtain ⟨⟨xk, xd, ⟨xw, xu, xx⟩⟩, hxo⟩ : ∃ x, o.getD slt0 = x := ⟨_, rfl⟩
      rw [hxo] at hst htk hyes
      dsimp only at hst htk hyes
      obtain ⟨os, hos⟩ : ∃ b, o.isSome = b := ⟨_, rfl⟩
      rw [hos] at hst
      have D1 := H3.wd
      have e2 := D1.cell (k := 2) rfl
      have le := D1.lt
      have n1 : wb ≠ wr.heap.size := by omega
      have n1' : wr.heap.size ≠ wb := by omega
      have n2 : bb ≠ wr.heap.size := by omega
      have n2' : wr.heap.size ≠ bb := by omega
      have HSt := Lib.hid hst
      have HD1 := Lib.hid D1
      have HT := Lib.hid htk
      have HY := Lib.hid hyes
      have C0 := Lib.hid d0
      have C1 := Lib.hid d1
      clear hst D1 htk hyes H3 hv hmL ho hxo hos hno hx
      go_wp2_with fail
      go_region_held3 (fun w' => w'.cell? ⟨wb, 2, none⟩ = some (.pointer (some ⟨A.sp, 0, none⟩)) ∧ w'.cell? ⟨bb, m * 2, none⟩ = some (.int .i64 x1) ∧ w'.cell? ⟨bb, m * 2 + 1, none⟩ = some (.int .i64 x2)) (go_keep) (first
        | (go_at_call 27; (with_reducible refine (HSt.out wr.drew ((Below.refl _ wr).drew)).mono ?_); rintro e W2 ⟨rfl, b2⟩; have q2 := (Below.refl wr.heap.size wr).drew.trans b2; have y2 := (HD1.out.past q2).cell (k := 2) rfl; have yl := (HD1.out.past q2).lt; have z0 := (q2.cell (p := ⟨bb, m * 2, none⟩) lb).trans C0.out; have z1 := (q2.cell (p := ⟨bb, m * 2 + 1, none⟩) lb).trans C1.out; have zl := Nat.lt_of_lt_of_le lb q2.size)
        | (go_at_call 27; (with_reducible refine (HSt.out (wr.alloc (.cells #[.int .i64 0, .int .i64 0, .bool false, .bool false, .bool false] 62)).drew ((bal wr (.cells #[.int .i64 0, .int .i64 0, .bool false, .bool false, .bool false] 62)).drew)).mono ?_); rintro e W2 ⟨rfl, b2⟩; have q2 := (bal wr (.cells #[.int .i64 0, .int .i64 0, .bool false, .bool false, .bool false] 62)).drew.trans (b2.mono (by simp)); have y2 := (HD1.out.past q2).cell (k := 2) rfl; have yl := (HD1.out.past q2).lt; have z0 := (q2.cell (p := ⟨bb, m * 2, none⟩) lb).trans C0.out; have z1 := (q2.cell (p := ⟨bb, m * 2 + 1, none⟩) lb).trans C1.out; have zl := Nat.lt_of_lt_of_le lb q2.size; have ZP := (Blk.new wr 62 [.int .i64 0, .int .i64 0, .bool false, .bool false, .bool false]).drew.past b2; have zc0 := ZP.cell (k := 0) rfl; have zc1 := ZP.cell (k := 1) rfl; have zc2 := ZP.cell (k := 2) rfl; have zc3 := ZP.cell (k := 3) rfl; have zc4 := ZP.cell (k := 4) rfl; have zcf := fun j => ZP.free j; have zcl := ZP.lt))
      all_goals (first
        | (obtain ⟨P5, q5⟩ := set5 (.int .i64 xk) (.int .i64 xd) (.bool xw) (.bool xu) (.bool xx) ZP q2 (Nat.le_refl _)
           obtain ⟨pb, hpb⟩ : ∃ t, wr.heap.size = t := ⟨_, rfl⟩
           obtain ⟨W5, hW5⟩ : ∃ W', ((((W2.setCell ⟨wr.heap.size, 0, none⟩ (.int .i64 xk)).setCell ⟨wr.heap.size, 1, none⟩ (.int .i64 xd)).setCell ⟨wr.heap.size, 2, none⟩ (.bool xw)).setCell ⟨wr.heap.size, 3, none⟩ (.bool xu)).setCell ⟨wr.heap.size, 4, none⟩ (.bool xx) = W' := ⟨_, rfl⟩
           rw [hW5] at P5 q5
           rw [hpb] at P5
           rw [hW5, hpb]
           clear hW5 hpb q2 b2 ZP zc0 zc1 zc2 zc3 zc4 zcf zcl)
        | (have bn := bal W2 (.cells #[.int .i64 xk, .int .i64 xd, .bool xw, .bool xu, .bool xx] 62)
           have P5 := Blk.new W2 62 [.int .i64 xk, .int .i64 xd, .bool xw, .bool xu, .bool xx]
           have q5 := q2.trans (bn.mono q2.size)
           obtain ⟨pb, hpb⟩ : ∃ t, W2.heap.size = t := ⟨_, rfl⟩
           obtain ⟨W5, hW5⟩ : ∃ W', W2.alloc (.cells #[.int .i64 xk, .int .i64 xd, .bool xw, .bool xu, .bool xx] 62) = W' := ⟨_, rfl⟩
           rw [show (W2.alloc (.cells ([.int .i64 xk, .int .i64 xd, .bool xw, .bool xu, .bool xx] : List Value).toArray 62)) = W5 from hW5, hpb] at P5
           rw [hW5] at q5
           rw [hW5, hpb]
           clear hW5 hpb bn q2 b2))
      all_goals
        have c2' := P5.cell (k := 2) rfl
        have lp := P5.lt
        cases xw
        · go_wp2_with fail
          go_roundw
          case rel => exact ⟨m + 1, by omega, by simp, HT.out, hB.trans (q5.mono hB.size)⟩
          case measure => simp [intOf]; omega
        · go_wp2_with fail
          go_ret
          exact ⟨by rw [HY.out (by simp)]; rfl, hBw.trans (q5.mono hBw.size)⟩
    · obtain rfl : m = n := by omega
      have hr : R = false := by rw [← HR.out]; rw [← HN.out, List.take_length] at hno; exact hno
      clear hno
      go_wp2_with fail
      go_ret
      exact ⟨by rw [hr]; rfl, hBw⟩
end Go.Proofs.Ytldmlmojokicaaa
