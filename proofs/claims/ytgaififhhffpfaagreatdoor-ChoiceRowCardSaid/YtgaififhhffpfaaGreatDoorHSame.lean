/- The document's Same at hits: two rows of the same hits are told alike. -/
import Derived.Test.YtgaififhhffpfaaGreatDoorHit
import Derived.Deep.QuietTactic
import Derived.Test.YtgaififhhffpfaaGreatDoorChGet
import Derived.Deep.Upon
namespace Go.Proofs.YtgaififhhffpfaaGreatDoor
open Go.RowKit Go.Shelf

theorem HRow.cells7 {w : World} {v : Value} {l : List Hit} (h : HRow w v l) : ∃ a n c, v = .slice a n c ∧ n = l.length ∧ (∀ k, k < l.length → ∃ b, a = some ⟨b, 0, none⟩ ∧ b < w.heap.size ∧
    w.cell? ⟨b, k * 7, none⟩ = some (.int .i64 (l.getD k hit0).asid) ∧ w.cell? ⟨b, k * 7 + 1, none⟩ = some (.int .i64 (l.getD k hit0).page) ∧ w.cell? ⟨b, k * 7 + 2, none⟩ = some (.int .i64 (l.getD k hit0).frame) ∧
    w.cell? ⟨b, k * 7 + 3, none⟩ = some (.bool (l.getD k hit0).r.w) ∧ w.cell? ⟨b, k * 7 + 4, none⟩ = some (.bool (l.getD k hit0).r.u) ∧ w.cell? ⟨b, k * 7 + 5, none⟩ = some (.bool (l.getD k hit0).r.x) ∧ w.cell? ⟨b, k * 7 + 6, none⟩ = some (.bool (l.getD k hit0).dirty)) := by
  rcases h.view with ⟨rfl, rfl⟩ | ⟨g, cap, rest, rfl, hb, h1, h2, h3⟩
  · exact ⟨none, 0, 0, rfl, rfl, fun k hk => by simp at hk⟩
  · refine ⟨_, _, _, rfl, rfl, fun k hk => ⟨g, rfl, hb.lt, ?_⟩⟩
    have hl := hitsC_len l
    have key : ∀ j, j < 7 → ∀ u, (l.getD k hit0).cells[j]? = some u → w.cell? ⟨g, k * 7 + j, none⟩ = some u := fun j hj u hu => by
      have := hitsC_get l k j hk hj
      have hb' := hb.cell (k := k * 7 + j) (v := u) (by rw [List.getElem?_append_left (by omega), this, hu])
      exact hb'
    exact ⟨key 0 (by omega) _ rfl, key 1 (by omega) _ rfl, key 2 (by omega) _ rfl, key 3 (by omega) _ rfl, key 4 (by omega) _ rfl, key 5 (by omega) _ rfl, key 6 (by omega) _ rfl⟩
set_option maxRecDepth 100000 in
set_option maxHeartbeats 2000000 in
theorem hsame_any (w : World) (u v : Value) (l : List Hit) (hu : HRow w u l) (hv : HRow w v l) (hl : l.length ≤ 1000000) :
    Calls Tryz.prog 36 #[u, v] w fun e w' => e = .returned (.bool true) ∧ Below w.heap.size w w' := by
  obtain ⟨a, n, ca, rfl, hn, hx⟩ := hu.cells7
  obtain ⟨b, m, cb, rfl, hm, hy⟩ := hv.cells7
  rw [← hn] at hl hx
  obtain rfl : m = n := hm.trans hn.symm
  rw [← hm] at hy
  have HX := Lib.hid hx
  have HY := Lib.hid hy
  clear hx hy hu hv hm hn
  go_enter Tryz.func36, Tryz.ntmps36
  go_wp2_with fail
  go_loopw [5] (fun i wr => ∃ k : Nat, k ≤ m ∧ i = .int .i64 k ∧ Below w.heap.size w wr) (fun i _ => m - (intOf i).toNat)
  case atStart => exact ⟨0, by omega, rfl, Below.refl _ _⟩
  case round =>
    obtain ⟨k, hk, rfl, hB⟩ := hrel
    by_cases hkl : k < m
    · obtain ⟨bx, rfl, h1, A0, A1, A2, A3, A4, A5, A6⟩ := HX.out k hkl
      obtain ⟨by', rfl, h2, D0, D1, D2, D3, D4, D5, D6⟩ := HY.out k hkl
      obtain ⟨⟨xa, xp, xf, ⟨xw, xu, xx⟩, xd⟩, hh⟩ : ∃ h, l.getD k hit0 = h := ⟨_, rfl⟩
      rw [hh] at A0 A1 A2 A3 A4 A5 A6 D0 D1 D2 D3 D4 D5 D6
      dsimp only at A0 A1 A2 A3 A4 A5 A6 D0 D1 D2 D3 D4 D5 D6
      have c0 := (hB.cell (p := ⟨bx, _, none⟩) h1).trans A0
      have c1 := (hB.cell (p := ⟨bx, _, none⟩) h1).trans A1
      have c2 := (hB.cell (p := ⟨bx, _, none⟩) h1).trans A2
      have c3 := (hB.cell (p := ⟨bx, _, none⟩) h1).trans A3
      have c4 := (hB.cell (p := ⟨bx, _, none⟩) h1).trans A4
      have c5 := (hB.cell (p := ⟨bx, _, none⟩) h1).trans A5
      have c6 := (hB.cell (p := ⟨bx, _, none⟩) h1).trans A6
      have d0 := (hB.cell (p := ⟨by', _, none⟩) h2).trans D0
      have d1 := (hB.cell (p := ⟨by', _, none⟩) h2).trans D1
      have d2 := (hB.cell (p := ⟨by', _, none⟩) h2).trans D2
      have d3 := (hB.cell (p := ⟨by', _, none⟩) h2).trans D3
      have d4 := (hB.cell (p := ⟨by', _, none⟩) h2).trans D4
      have d5 := (hB.cell (p := ⟨by', _, none⟩) h2).trans D5
      have d6 := (hB.cell (p := ⟨by', _, none⟩) h2).trans D6
      have HBl := Lib.hid hB
      clear A0 A1 A2 A3 A4 A5 A6 D0 D1 D2 D3 D4 D5 D6 hh hB
      go_wp2_with fail
      go_quiet (fail)
      go_wp2
      go_roundw
      case rel => exact ⟨k + 1, by omega, by simp, HBl.out.trans (below_of_drewN _ _ |>.mono HBl.out.size)⟩
      case measure => simp [intOf]; omega
    · obtain rfl : k = m := by omega
      go_wp2
      go_ret
      exact ⟨rfl, hB⟩
end Go.Proofs.YtgaififhhffpfaaGreatDoor

namespace Go.Proofs.YtgaififhhffpfaaGreatDoor
open Go.RowKit
theorem chs_cells {w : World} {b off : Nat} {cs : List (Bool × Int)} (h : ∀ j, j < cs.length → w.cell? ⟨b, off + j * 2, none⟩ = some (.bool (cs.getD j (false, 0)).1) ∧ w.cell? ⟨b, off + j * 2 + 1, none⟩ = some (.int .i64 (cs.getD j (false, 0)).2)) :
    ∀ j u, (cs.flatMap cC)[j]? = some u → w.cell? ((⟨b, off, none⟩ : Addr).add j) = some u := by
  induction cs generalizing off with
  | nil => intro j u hu; simp at hu
  | cons c cs ih =>
    intro j u hu
    have e : (c :: cs).flatMap cC = .bool c.1 :: .int .i64 c.2 :: cs.flatMap cC := rfl
    rw [e] at hu
    have h0 := h 0 (by simp)
    match j, hu with
    | 0, hu =>
      rw [List.getElem?_cons_zero] at hu; cases hu
      simpa [Addr.add] using h0.1
    | 1, hu =>
      rw [List.getElem?_cons_succ, List.getElem?_cons_zero] at hu; cases hu
      simpa [Addr.add] using h0.2
    | j + 2, hu =>
      rw [List.getElem?_cons_succ, List.getElem?_cons_succ] at hu
      have := ih (off := off + 2) (fun k hk => by
        have := h (k + 1) (by simp; omega)
        rw [List.getD_cons_succ] at this
        rw [show off + 2 + k * 2 = off + (k + 1) * 2 by omega]; exact this) j u hu
      rw [Addr.add_lit] at this ⊢
      rw [show off + (j + 2) = off + 2 + j by omega]; exact this
theorem flat_len (cs : List (Bool × Int)) : (cs.flatMap cC).length = cs.length * 2 := by
  induction cs with
  | nil => rfl
  | cons c cs ih =>
    have e : (c :: cs).flatMap cC = .bool c.1 :: .int .i64 c.2 :: cs.flatMap cC := rfl
    rw [e]; simp [ih]; omega
theorem flat_one (cs : List (Bool × Int)) : ∀ u ∈ cs.flatMap cC, u.oneCell' = true := by
  intro u hu
  obtain ⟨c, _, hc⟩ := List.mem_flatMap.1 hu
  simp [cC] at hc
  rcases hc with rfl | rfl <;> rfl
/-- choices behind choices -/
theorem run_chs (w : World) (base : Nat) (v : Value) (n : Nat) (xs : List Value) (hown : w.ownsRow base 79 2 v n xs) (a : Option Addr) (m c : Nat) (cs : List (Bool × Int)) (hm : cs.length = m) (hc : Chs w a cs) (h63 : n + m ≤ 1000000) (hbase : base ≤ w.heap.size) (ty : TypeId) :
    ∃ v' w', (Builtin.append_ #[77, 77] ty #[v, .slice a m c]).run Tryz.prog w = .ok v' w' ∧ w'.ownsRow base 79 2 v' (n + m) (xs ++ cs.flatMap cC) ∧ w.grownBy w' v.ownBlock := by
  obtain ⟨i0, hi, hz0, hz1, hz2⟩ := info_parts info_choice
  rcases hc with rfl | ⟨b, off, rfl, _, hcell⟩
  · simp at hm; subst hm
    have hs : Src Tryz.prog i0.size 77 (.slice a 0 c) 0 [] w := by
      cases a with
      | none => exact Src.ofNil w Tryz.underlying77 c
      | some a => exact Src.ofSlice w Tryz.underlying77 a 0 c [] (by simp) (fun j u h => by simp at h) (fun u h => by cases h)
    have hg : w.grownBy w v.ownBlock := ⟨rfl, rfl, rfl, Nat.le_refl _, fun _ _ _ => rfl⟩
    rcases id hown.2 with ⟨rfl, rfl⟩ | ⟨g, cap, cur, rfl, h1, h2, h3, h4, h5, h6⟩
    · exact ⟨_, _, run_append_nothing w _ _ _ _ i0 Tryz.underlying77 hi _ _ _ (Nat.le_refl _) _ hs, by simpa using hown, hg⟩
    · exact ⟨_, _, run_append_nothing w _ _ _ _ i0 Tryz.underlying77 hi _ _ _ h3 _ hs, by simpa using hown, hg⟩
  · obtain ⟨v', w', h1, h2, h3, _⟩ := run_append_own (P := Tryz.prog) w base 77 ty 79 i0 _ 2 16 Tryz.underlying77 hi hz0 hz1 hz2 rfl (by decide) v n xs hown ⟨b, off, none⟩ m c (cs.flatMap cC) (by rw [flat_len, hm]) (chs_cells hcell) (flat_one cs) (by unfold maxLen; omega) (by omega) hbase
    exact ⟨v', w', h1, h2, h3⟩
theorem wpList_chs {w : World} {ops : Array Oper} {rest : List Oper} {o : Oper} {act : Act} {Q : Exit → Act → World → Prop} (hgd : o.guard = none) (s x : Operand)
    (ho : o.op = .call { callee := .builtin .append, args := #[s, x], argTypes := #[77, 77] })
    (base : Nat) (v : Value) (n : Nat) (xs : List Value) (hs : act.eval s = v) (hown : w.ownsRow base 79 2 v n xs) (a : Option Addr) (m c : Nat) (hx : act.eval x = .slice a m c) (cs : List (Bool × Int)) (hm : cs.length = m) (hc : Chs w a cs) (h63 : n + m ≤ 1000000) (hbase : base ≤ w.heap.size)
    (h : ∀ v' w', w'.ownsRow base 79 2 v' (n + m) (xs ++ cs.flatMap cC) → w.grownBy w' v.ownBlock → wpList Tryz.prog ops Q rest (act.put o.dst v') w') : wpList Tryz.prog ops Q (o :: rest) act w := by
  refine wpList_plain hgd fun K hK' => ?_
  obtain ⟨v', w', hrun, r1, r2⟩ := run_chs w base v n xs hown a m c cs hm hc h63 hbase o.type
  unfold Oper.wp
  simp [execOp, ho, resolve, invoke, builtin, hs, hx, hrun, Result.andThen]
  exact hK' _ _ (h v' w' r1 r2)
theorem apply_q {w0 w : World} {ts : List Thing} (H : Hold w0 w ts) (i : Nat) {A : MA} {v : Value} {S U : S10} {q : Nat} (hi : ts[i]? = some (Go.Proofs.YtgaififhhffpfaaGreatDoor.mdl A v S)) (hE : EC w0) (h0 : 1 ≤ w0.heap.size)
    (a : Option Addr) (c : Nat) (l : List (Bool × Int)) (n : Nat) (hq : applyN S l = (q, U)) (hn : l.length = n) (hl : n ≤ 9223372036854775807) (hc : ∀ W v' S', Hold w0 W (ts.set i (Go.Proofs.YtgaififhhffpfaaGreatDoor.mdl A v' S')) → Chs W a l) :
    Calls Tryz.prog 46 #[.pointer (some ⟨A.p, 0, none⟩), .slice a n c] w fun e w' => e = .returned (.int .i64 (q : Int)) ∧ ∃ v', Hold w0 w' (ts.set i (Go.Proofs.YtgaififhhffpfaaGreatDoor.mdl A v' U)) := by
  have := apply_n H i hi hE h0 a c l n hn hl hc
  rw [hq] at this; exact this
section
variable {H : Type} {enc : TypeId × Value → H} {w : World} {base base' : Nat} {spare : Nat → Bool} {held : Bool}
open Go.ChangeShapes Go.WideShapes Go.RowKit Go.Deep
set_option maxRecDepth 100000 in
/-- .. with room for what it shows -/
theorem open_chc {v : Value} {d : DataW H} {p : List MemPlace} (hv : Value.okWide Tryz.prog w .any base' 77 v) (h : DataW.Trod enc Tryz.prog w base spare held 77 v d p) :
    ∃ (a : Option Addr) (c : Nat) (l : List (Bool × Int)), v = .slice a l.length c ∧ Chs w a l ∧ l.length ≤ 9223372036854775807 ∧ l.length ≤ c := by
  obtain ⟨a, c, l, rfl, h1, h2⟩ := open_chs hv h
  obtain ⟨fuel, hf⟩ := h
  refine ⟨a, c, l, rfl, h1, h2, ?_⟩
  rcases open_slice Tryz.underlying77 hf with ⟨hcs, _⟩ | ⟨a, l, c, m, n, D, Pl, hcs, hb, hl, hm, hmm, hx, hi⟩
  · simp [Value.cells] at hcs
    rw [hcs.2.1]; exact Nat.zero_le _
  · simp [Value.cells] at hcs
    obtain ⟨rfl, rfl, rfl⟩ := hcs
    omega
end
end Go.Proofs.YtgaififhhffpfaaGreatDoor
