/- The law's operations, as functions. The law's writable. -/
import Derived.Test.YtglohconhbcchaaGreatDoorGm
import Derived.Test.YtglohconhbcchaaGreatDoorGk
import Derived.Test.YtglohconhbcchaaGreatDoorTlb2
namespace Go.Proofs.YtglohconhbcchaaGreatDoor
open Go.RowKit Go.Shelf Go.Maps

structure Opg where
  k : Int
  kg : Int
  kv : Int
  kr : Int
  p : Int
  i : Int
  g : Int
  r : Rt
  v : Nat
  deriving DecidableEq
def Opg.cells (o : Opg) : List Value := [.int .i64 o.k, .int .i64 o.kg, .int .i64 o.kv, .int .i64 o.kr, .int .i64 o.p, .int .i64 o.i, .int .i64 o.g, .bool o.r.w, .bool o.r.u, .bool o.r.x, .int .u64 (o.v : Int)]
def hof (g : Int) : Int := IntKind.i64.wrap (24 + bits .and .i64 g 15)
/-- one operation of the law -/
def gdo (P : Pm) (G : GS) (o : Opg) : (Int × Bool) × GS :=
  if o.k = 0 ∨ o.k = 1 then (((gmake P G ⟨o.kg, o.kv, o.kr⟩).1.getD 0, (gmake P G ⟨o.kg, o.kv, o.kr⟩).1.isSome), (gmake P G ⟨o.kg, o.kv, o.kr⟩).2)
  else if o.k = 2 ∨ o.k = 3 then ((0, (schild G.s o.p o.i o.g o.r).1), { G with s := (schild G.s o.p o.i o.g o.r).2 })
  else if o.k = 4 ∨ o.k = 5 then ((0, (sleaf P.n G.s o.p o.i o.g (hof o.g) o.r).1), { G with s := (sleaf P.n G.s o.p o.i o.g (hof o.g) o.r).2 })
  else if o.k = 6 then ((0, (gzap G o.p o.i).1), (gzap G o.p o.i).2)
  else if o.k = 7 then ((0, true), gword G o.g o.i)
  else if o.k = 8 then ((0, (gloosen G o.g).1), (gloosen G o.g).2)
  else if o.k = 9 then ((0, (glook P G o.g).1), (glook P G o.g).2)
  else if o.k = 10 then ((0, true), gall P G)
  else if o.k = 11 then ((0, (gdrop G o.p).1), (gdrop G o.p).2)
  else if o.k = 12 then ((0, (place P.hosts o.g o.i).isSome), { G with s := { G.s with mem := wr P.hosts G.s.mem o.g o.i o.v } })
  else if o.k = 13 then ((0, true), { G with l := tput P.most G.l ⟨0, o.i, o.p, ⟨false, false, false⟩, false⟩ })
  else ((0, true), G)
theorem tput_len (most : Nat) (l : List Hit) (x : Hit) (h : l.length ≤ most) (hm : 1 ≤ most) : (tput most l x).length ≤ most := by
  have h1 : (tdrop l x.asid x.page).length ≤ l.length := (List.eraseP_sublist ..).length_le
  unfold tput
  rw [List.length_append, List.length_singleton]
  split
  · rw [List.length_drop]; omega
  · omega
theorem tput_h {w0 w : World} {A : GAd} {P : Pm} {V : GVl} {G : GS} {ts : List Thing} (H : HG w0 w A P V G ts) (hm : 1 ≤ P.most) (x : Hit) :
    Calls Tryz.prog 36 #[.pointer (some ⟨A.tp, 0, none⟩), .agg #[.int .i64 x.asid, .int .i64 x.page, .int .i64 x.frame, .bool x.r.w, .bool x.r.u, .bool x.r.x, .bool x.dirty]] w
      fun e w' => (∃ r, e = .returned r) ∧ ∃ V', HG w0 w' A P V' { G with l := tput P.most G.l x } ts := by
  have hx := H.tx
  have h1 := hx.le
  have h2 := hx.small
  refine (tlbPut_any w A.tp P.most V.tv G.l x hx.t (by omega) hm (by omega)).mono ?_
  rintro e w' ⟨hr, v', ht, ho, hk⟩
  exact ⟨hr, _, H.setTlb _ _ ⟨ht, tput_len _ _ _ h1 hm, h2⟩ hk ho⟩
def wldC (A : GAd) : List Value := [.pointer (some ⟨A.fp, 0, none⟩), .pointer (some ⟨A.p, 0, none⟩), .pointer (some ⟨A.sp, 0, none⟩), .pointer (some ⟨A.tp, 0, none⟩), .pointer (some ⟨A.dp, 0, none⟩)]
theorem HG.wd {w0 w : World} {A : GAd} {P : Pm} {V : GVl} {G : GS} {ts : List Thing} {wb : Nat} (H : HG w0 w A P V G (wld wb A :: ts)) : Blk w wb 42 (wldC A) := H.top
theorem HG.wd2 {w0 w : World} {A : GAd} {P : Pm} {V : GVl} {G : GS} {ts : List Thing} {wb : Nat} {t : Thing} (H : HG w0 w A P V G (t :: wld wb A :: ts)) : Blk w wb 42 (wldC A) := H.top2
end Go.Proofs.YtglohconhbcchaaGreatDoor

namespace Go.Proofs.YtglohconhbcchaaGreatDoor
open Go.RowKit Go.Shelf Go.Maps

def gwrit (G : GS) (g : Int) : Bool := (stold G.s.ps 2 g).any fun a => ((sslot G.s.ps a.1 a.2).getD slt0).r.w
end Go.Proofs.YtglohconhbcchaaGreatDoor
