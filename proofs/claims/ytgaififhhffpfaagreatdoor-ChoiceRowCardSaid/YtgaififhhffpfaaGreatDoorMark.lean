/- slices.ContainsFunc at a path's places; pte.Used; walk.Mark and walk.Marked. -/
import Derived.Test.YtgaififhhffpfaaGreatDoorPath
import Derived.Deep.RegionHeld3
import Derived.Shelf.Abstract
import Derived.RangeFuncNested
namespace Go.Proofs.YtgaififhhffpfaaGreatDoor
open Go.RowKit Go.Shelf

theorem getD_at {α : Type} {l : List α} {k : Nat} (d : α) (h : k < l.length) : l.getD k d = l[k] := by simp [List.getD, List.getElem?_eq_getElem h]

set_option maxHeartbeats 1000000 in
theorem index_any (w : World) (a : Option Addr) (l : List (Int × Int)) (c : Nat) (g : Nat) (lb : Array Value) (b : Int × Int → Bool) (hs : Sl w a l) (hsm : l.length ≤ 1000000)
    (eg : ∀ args w, (callFunc g args).run Tryz.prog w = .ok (.enter g args) w)
    (hp : ∀ x, x ∈ l → ∀ W, Below w.heap.size w W → Calls Tryz.prog g (#[.agg #[.int .i64 x.1, .int .i64 x.2]] ++ lb) W fun e W' => e = .returned (.bool (b x)) ∧ Below W.heap.size W W') :
    Calls Tryz.prog 139 #[.slice a l.length c, .func (.func g) #[] lb] w
      fun e w' => (∃ i : Int, e = .returned (.int .i64 i) ∧ (decide (0 ≤ i) = l.any b)) ∧ Below w.heap.size w w' := by
  rcases hs with ⟨rfl, rfl⟩ | ⟨B, rest, rfl, hb⟩
  · go_enter Tryz.func139, Tryz.ntmps139
    go_wp2
    go_rounds 1
    go_wp2
    go_ret
    exact ⟨⟨_, rfl, rfl⟩, Below.refl _ _⟩
  · obtain ⟨len, hlen⟩ : ∃ len, l.length = len := ⟨_, rfl⟩
    rw [hlen] at hsm ⊢
    have HL := Lib.hid hlen
    clear hlen
    have HP := Lib.hid hp
    clear hp
    go_enter Tryz.func139, Tryz.ntmps139
    go_wp2
    go_loopw [8] (fun i wr => ∃ k : Nat, k ≤ len ∧ i = .int .i64 k ∧ (l.take k).any b = false ∧ Below w.heap.size w wr) (fun i _ => len - (intOf i).toNat)
    case atStart => exact ⟨0, by omega, rfl, by simp, Below.refl _ _⟩
    case round =>
      obtain ⟨k, hk, rfl, hno, hB⟩ := hrel
      by_cases hkl : k < len
      · have hB' := hb.past hB
        obtain ⟨x, hx⟩ : ∃ x, l.getD k (0, 0) = x := ⟨_, rfl⟩
        obtain ⟨c0, c1⟩ := Sl.at hB' k (by rw [HL.out]; exact hkl)
        rw [hx] at c0 c1
        have hxm : x ∈ l := by rw [← hx, getD_at _ (by rw [HL.out]; exact hkl)]; exact List.getElem_mem _
        have hcall := HP.out x hxm wr hB
        have htake : (l.take (k + 1)).any b = b x := by
          have hkl' : k < l.length := by rw [HL.out]; exact hkl
          rw [List.take_add_one, List.getElem?_eq_getElem hkl', List.any_append, hno, ← hx, getD_at _ hkl']; simp
        have hany : b x = true → l.any b = true := fun h => List.any_eq_true.2 ⟨x, hxm, h⟩
        obtain ⟨bx, hbx⟩ : ∃ bx, b x = bx := ⟨_, rfl⟩
        rw [hbx] at hcall htake hany
        have HT := Lib.hid htake
        have HA := Lib.hid hany
        clear htake hany hbx hx hxm hb hB'
        cases bx
        · go_wp2_with ((with_reducible refine Calls.mono hcall ?_); rintro e W' ⟨rfl, hb2⟩)
          go_roundw
          case rel => exact ⟨k + 1, by omega, by go_num, HT.out, hB.trans (hb2.mono hB.size)⟩
          case measure => simp [intOf]; omega
        · go_wp2_with ((with_reducible refine Calls.mono hcall ?_); rintro e W' ⟨rfl, hb2⟩)
          go_ret
          exact ⟨⟨_, rfl, by rw [HA.out (by simp)]; simp⟩, hB.trans (hb2.mono hB.size)⟩
      · obtain rfl : k = len := by omega
        go_wp2
        go_ret
        refine ⟨⟨_, rfl, ?_⟩, hB⟩
        rw [← HL.out, List.take_length] at hno
        rw [hno]; rfl

theorem contains_any (w : World) (a : Option Addr) (l : List (Int × Int)) (c : Nat) (g : Nat) (lb : Array Value) (b : Int × Int → Bool) (hs : Sl w a l) (hsm : l.length ≤ 1000000)
    (eg : ∀ args w, (callFunc g args).run Tryz.prog w = .ok (.enter g args) w)
    (hp : ∀ x, x ∈ l → ∀ W, Below w.heap.size w W → Calls Tryz.prog g (#[.agg #[.int .i64 x.1, .int .i64 x.2]] ++ lb) W fun e W' => e = .returned (.bool (b x)) ∧ Below W.heap.size W W') :
    Calls Tryz.prog 99 #[.slice a l.length c, .func (.func g) #[] lb] w
      fun e w' => e = .returned (.bool (l.any b)) ∧ Below w.heap.size w w' := by
  have hcon := index_any w a l c g lb b hs hsm eg hp
  obtain ⟨r, hr⟩ : ∃ r, l.any b = r := ⟨_, rfl⟩
  rw [hr] at hcon ⊢
  have HC := Lib.hid hcon
  clear hcon hr hp eg hs
  go_enter Tryz.func99, Tryz.ntmps99
  go_wp2_with (go_at_call 139; refine HC.out.mono ?_; rintro e w' ⟨⟨i, rfl, hi⟩, hB⟩; have HI := Lib.hid hi; clear hi)
  go_ret
  exact ⟨by rw [← HI.out]; rfl, hB⟩

/-- A word told as used. -/
def usedW (v : Nat) (b : Bool) : Nat := if b then (v ||| 32) ||| 64 else v ||| 32
theorem or_lt {v m : Nat} (hv : v < 2 ^ 64) (hm : m < 2 ^ 64) : v ||| m < 2 ^ 64 := Nat.or_lt_two_pow hv hm
theorem usedW_lt {v : Nat} (hv : v < 2 ^ 64) (b : Bool) : usedW v b < 2 ^ 64 := by
  unfold usedW; split
  · exact or_lt (or_lt hv (by decide)) (by decide)
  · exact or_lt hv (by decide)
theorem used_any (w : World) (v : Nat) (b : Bool) (hv : v < 2 ^ 64) :
    Calls Tryz.prog 154 #[.int .u64 (v : Int), .bool b] w fun e w' => e = .returned (.int .u64 ((usedW v b : Nat) : Int)) ∧ w = w' := by
  have e1 := u64_or_nat v 32 hv (by decide)
  have e2 := u64_or_nat (v ||| 32) 64 (or_lt hv (by decide)) (by decide)
  unfold usedW
  have H1 := Lib.hid e1
  have H2 := Lib.hid e2
  clear e1 e2
  cases b
  · go_enter Tryz.func154, Tryz.ntmps154
    go_wp2
    go_ret
    exact ⟨by rw [show bits .or .u64 (v : Int) 32 = ((v ||| 32 : Nat) : Int) from H1.out]; rfl, rfl⟩
  · go_enter Tryz.func154, Tryz.ntmps154
    go_wp2
    go_ret
    exact ⟨by rw [show bits .or .u64 (v : Int) 32 = ((v ||| 32 : Nat) : Int) from H1.out, show bits .or .u64 ((v ||| 32 : Nat) : Int) 64 = (((v ||| 32) ||| 64 : Nat) : Int) from H2.out]; rfl, rfl⟩

/-- the closures of Mark and Marked -/
theorem none_any (w : World) (B p fb n : Nat) (hosts mem : List Nat) (x : Int × Int) (hB : w.cell? ⟨B, 0, none⟩ = some (.pointer (some ⟨p, 0, none⟩))) (M : GM w p fb hosts n mem) :
    Calls Tryz.prog 153 #[.agg #[.int .i64 x.1, .int .i64 x.2], .pointer (some ⟨B, 0, none⟩)] w
      fun e w' => e = .returned (.bool (rd hosts mem x.1 x.2).isNone) ∧ Below w.heap.size w w' := by
  obtain ⟨g, i⟩ := x
  dsimp only
  obtain ⟨o, ho⟩ : ∃ o, rd hosts mem g i = o := ⟨_, rfl⟩
  have lB := lt_of_cell hB
  have hcon := gm_get (M.past ((Below.refl _ w).alloc (Nat.le_refl _) (.cells #[.int .i64 g, .int .i64 i] 53))) g i o ho
  rw [ho]
  clear M ho
  have HC := Lib.hid hcon
  clear hcon
  cases o <;>
  · go_enter Tryz.func153, Tryz.ntmps153
    go_wp2_with (go_at_call 21; refine HC.out.mono ?_; rintro e w' ⟨rfl, rfl⟩)
    go_ret
    exact ⟨rfl, (Below.refl _ _).alloc (Nat.le_refl _) _⟩

theorem field_a (e : Pte) (w : World) : (Instr.field 146 (.agg #[.bool e.p, .bool e.w, .bool e.u, .bool e.a, .bool e.d, .bool e.ps, .bool e.nx, .bool e.bad, .int .i64 (e.f : Int)]) 3).run Tryz.prog w = .ok (.bool e.a) w := by kernel_rfl
/-- what Marked asks of a place -/
def unused (hosts mem : List Nat) (x : Int × Int) : Bool := match rd hosts mem x.1 x.2 with | none => true | some v => !(pte v).a
set_option maxRecDepth 100000 in
theorem unused_any (w : World) (B p fb n : Nat) (hosts mem : List Nat) (x : Int × Int) (hB : w.cell? ⟨B, 0, none⟩ = some (.pointer (some ⟨p, 0, none⟩))) (M : GM w p fb hosts n mem) :
    Calls Tryz.prog 100 #[.agg #[.int .i64 x.1, .int .i64 x.2], .pointer (some ⟨B, 0, none⟩)] w
      fun e w' => e = .returned (.bool (unused hosts mem x)) ∧ Below w.heap.size w w' := by
  obtain ⟨g, i⟩ := x
  obtain ⟨o, ho⟩ : ∃ o, rd hosts mem g i = o := ⟨_, rfl⟩
  have lB := lt_of_cell hB
  have hcon := gm_get (M.past ((Below.refl _ w).alloc (Nat.le_refl _) (.cells #[.int .i64 g, .int .i64 i] 53))) g i o ho
  have hbd := rd_lt (hosts := hosts) M.bd g i
  unfold unused
  dsimp only
  rw [ho] at hbd ⊢
  clear M ho
  have HC := Lib.hid hcon
  clear hcon
  cases o with
  | none =>
    go_enter Tryz.func100, Tryz.ntmps100
    go_wp2_with (go_at_call 21; refine HC.out.mono ?_; rintro e w' ⟨rfl, rfl⟩)
    go_ret
    exact ⟨rfl, (Below.refl _ _).alloc (Nat.le_refl _) _⟩
  | some v =>
    obtain ⟨en, hen⟩ : ∃ en, pte v = en := ⟨_, rfl⟩
    have hpt := fun W => pget_open W v en hen hbd
    dsimp only
    rw [hen]
    have HP := Lib.hid hpt
    have hfa := field_a en
    clear hpt hen hbd
    go_enter Tryz.func100, Tryz.ntmps100
    go_wp2_with (first | (go_at_call 21; refine HC.out.mono ?_; rintro e w' ⟨rfl, rfl⟩) | (go_at_call 101; refine (HP.out _).mono ?_; rintro e W ⟨rfl, hW⟩))
    go_ret
    exact ⟨rfl, ((Below.refl _ _).alloc (Nat.le_refl _) _).trans (hW.mono (by simp))⟩

set_option maxRecDepth 100000 in
theorem marked_any (w : World) (p fb n : Nat) (hosts mem : List Nat) (a : Option Addr) (P : Path) (c : Nat) (M : GM w p fb hosts n mem) (hs : Sl w a P.ats) (hsm : P.ats.length ≤ 1000) :
    Calls Tryz.prog 43 #[.pointer (some ⟨p, 0, none⟩), .agg #[.slice a P.ats.length c, .int .i64 P.g, .bool P.r.w, .bool P.r.u, .bool P.r.x, .bool P.large, .bool P.dirty]] w
      fun e w' => e = .returned (.bool (!(P.ats.any (unused hosts mem)))) ∧ Below w.heap.size w w' := by
  obtain ⟨ats, g, r, lg, d⟩ := P
  dsimp only at *
  obtain ⟨w0, hw0⟩ : ∃ w0, (w.alloc (.cells #[.pointer (some ⟨p, 0, none⟩)] 27)).alloc (.cells #[.slice a ats.length c, .int .i64 g, .bool r.w, .bool r.u, .bool r.x, .bool lg, .bool d] 42) = w0 := ⟨_, rfl⟩
  have B0 : Below w.heap.size w w0 := by rw [← hw0]; exact ((Below.refl _ w).alloc (Nat.le_refl _) _).alloc (by simp) _
  have h2 : Blk w0 w.heap.size 27 [.pointer (some ⟨p, 0, none⟩)] := by rw [← hw0]; exact (Blk.new w _ _).alloc _
  have hcon := contains_any w0 a ats c 100 #[.pointer (some ⟨w.heap.size, 0, none⟩)] (unused hosts mem) (hs.past B0) (by omega) (enters_of Tryz.func100 (by kernel_rfl) rfl)
    (fun x _ W hW => unused_any W w.heap.size p fb n hosts mem x ((h2.past hW).cell rfl) ((M.past B0).past hW))
  obtain ⟨len, hl⟩ : ∃ len, ats.length = len := ⟨_, rfl⟩
  obtain ⟨res, hres⟩ : ∃ res, ats.any (unused hosts mem) = res := ⟨_, rfl⟩
  rw [hl] at hw0 hcon ⊢
  rw [hres] at hcon ⊢
  have HC := Lib.hid hcon
  have HW := Lib.hid hw0
  clear hcon hw0 h2 hs M hres hl
  go_enter Tryz.func43, Tryz.ntmps43
  go_wp2_with (go_at_call 99; rw [HW.out]; refine HC.out.mono ?_; rintro e w' ⟨rfl, hB⟩)
  go_ret
  exact ⟨rfl, B0.trans (hB.mono B0.size)⟩
end Go.Proofs.YtgaififhhffpfaaGreatDoor
