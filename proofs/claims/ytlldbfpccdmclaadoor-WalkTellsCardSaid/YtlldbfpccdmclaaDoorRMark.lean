/- The document's Used, Marked, Mark: what they do is what the program's do. -/
import Derived.Test.YtlldbfpccdmclaaDoorRWalk
import Derived.Test.YtlldbfpccdmclaaDoorMark2
namespace Go.Proofs.YtlldbfpccdmclaaDoor
open Go.RowKit

theorem or_low {v k : Nat} (h : v.testBit k = false) : v ||| 2 ^ k = v + 2 ^ k := by
  have h1 : v / 2 ^ k % 2 = 0 := by
    rw [Nat.testBit_eq_decide_div_mod_eq, decide_eq_false_iff_not] at h
    omega
  have h2 : v % 2 ^ (k + 1) = v % 2 ^ k := by rw [Nat.pow_succ, Nat.mod_mul, h1]; simp
  have h3 : v % 2 ^ k < 2 ^ k := Nat.mod_lt _ (Nat.two_pow_pos k)
  obtain ⟨r, hr⟩ : ∃ r, v % 2 ^ (k + 1) = r := ⟨_, rfl⟩
  have hr2 : r < 2 ^ k := by rw [← hr, h2]; exact h3
  have hv : 2 ^ (k + 1) * (v / 2 ^ (k + 1)) + r = v := by rw [← hr]; exact Nat.div_add_mod v _
  have e1 : 2 ^ (k + 1) * (v / 2 ^ (k + 1)) + r = 2 ^ (k + 1) * (v / 2 ^ (k + 1)) ||| r := Nat.two_pow_add_eq_or_of_lt (by rw [Nat.pow_succ]; omega) _
  have e2 : 2 ^ k * 1 + r = 2 ^ k * 1 ||| r := Nat.two_pow_add_eq_or_of_lt hr2 _
  have e3 : 2 ^ (k + 1) * (v / 2 ^ (k + 1)) + (2 ^ k + r) = 2 ^ (k + 1) * (v / 2 ^ (k + 1)) ||| (2 ^ k + r) := Nat.two_pow_add_eq_or_of_lt (by rw [Nat.pow_succ]; omega) _
  rw [Nat.mul_one] at e2
  rw [← hv]
  conv => lhs; rw [e1, Nat.or_assoc, Nat.or_comm r, ← e2, ← e3]
  omega
theorem or_high {v k : Nat} (h : v.testBit k = true) : v ||| 2 ^ k = v := by
  refine Nat.eq_of_testBit_eq fun i => ?_
  rw [Nat.testBit_or, Nat.testBit_two_pow]
  by_cases hi : k = i
  · subst hi; rw [h]; rfl
  · simp [hi]
theorem rused_any (w : World) (v : Nat) (b : Bool) (u : Nat) (hu : usedW v b = u) (hv : v < 2 ^ 64) :
    Calls Tryd.prog 57 #[.int .u64 (v : Int), .bool b] w fun e w' => e = .returned (.int .u64 (u : Int)) ∧ w = w' := by
  obtain ⟨u1, h1⟩ : ∃ u, v ||| 32 = u := ⟨_, rfl⟩
  obtain ⟨u2, h2⟩ : ∃ u, u1 ||| 64 = u := ⟨_, rfl⟩
  have hu1 : u1 < 2 ^ 64 := by rw [← h1]; exact or_lt hv (by decide)
  have hu2 : u2 < 2 ^ 64 := by rw [← h2]; exact or_lt hu1 (by decide)
  have hfin : u = if b then u2 else u1 := by rw [← hu, ← h2, ← h1]; rfl
  obtain ⟨b5, hb5⟩ : ∃ b, v.testBit 5 = b := ⟨_, rfl⟩
  obtain ⟨b6, hb6⟩ : ∃ b, u1.testBit 6 = b := ⟨_, rfl⟩
  have c5 := bit_open w v 5 5 _ rfl hb5 hv (by decide)
  have c6 := bit_open w u1 6 6 _ rfl hb6 hu1 (by decide)
  have k5 : b5 = true → v = u1 := fun h => by rw [← h1]; exact (or_high (k := 5) (hb5.trans h)).symm
  have k5' : b5 = false → IntKind.u64.wrap ((v : Int) + 32) = (u1 : Int) := fun h => by
    have : u1 = v + 32 := by rw [← h1]; exact or_low (k := 5) (hb5.trans h)
    rw [IntWalk.u64_in _ (by omega)]; omega
  have k6 : b6 = true → u1 = u2 := fun h => by rw [← h2]; exact (or_high (k := 6) (hb6.trans h)).symm
  have k6' : b6 = false → IntKind.u64.wrap ((u1 : Int) + 64) = (u2 : Int) := fun h => by
    have : u2 = u1 + 64 := by rw [← h2]; exact or_low (k := 6) (hb6.trans h)
    rw [IntWalk.u64_in _ (by omega)]; omega
  have C5 := Lib.hid c5
  have C6 := Lib.hid c6
  have HF := Lib.hid hfin
  clear c5 c6 hfin hu h1 h2 hb5 hb6 hu1 hu2 hv
  cases b5 with
  | true =>
    obtain rfl := k5 rfl
    clear k5 k5'
    cases b6 with
    | true =>
      obtain rfl := k6 rfl
      clear k6 k6'
      cases b
      · have hu' := HF.out
        simp only [Bool.false_eq_true, if_false] at hu'
        subst hu'
        clear HF
        go_enter Tryd.func57, Tryd.ntmps57
        go_wp2_with (go_at_call 42; (first | (with_reducible refine C5.out.mono ?_) | (with_reducible refine C6.out.mono ?_)); rintro e w' ⟨rfl, rfl⟩)
        go_ret
        exact ⟨rfl, rfl⟩
      · have hu' := HF.out
        simp only [if_true] at hu'
        subst hu'
        clear HF
        go_enter Tryd.func57, Tryd.ntmps57
        go_wp2_with (go_at_call 42; (first | (with_reducible refine C5.out.mono ?_) | (with_reducible refine C6.out.mono ?_)); rintro e w' ⟨rfl, rfl⟩)
        go_ret
        exact ⟨rfl, rfl⟩
    | false =>
      have q6 := k6' rfl
      clear k6 k6'
      have Q6 := Lib.hid q6
      clear q6
      cases b
      · have hu' := HF.out
        simp only [Bool.false_eq_true, if_false] at hu'
        subst hu'
        clear HF
        go_enter Tryd.func57, Tryd.ntmps57
        go_wp2_with (go_at_call 42; (first | (with_reducible refine C5.out.mono ?_) | (with_reducible refine C6.out.mono ?_)); rintro e w' ⟨rfl, rfl⟩)
        go_ret
        exact ⟨rfl, rfl⟩
      · have hu' := HF.out
        simp only [if_true] at hu'
        subst hu'
        clear HF
        go_enter Tryd.func57, Tryd.ntmps57
        go_wp2_with (go_at_call 42; (first | (with_reducible refine C5.out.mono ?_) | (with_reducible refine C6.out.mono ?_)); rintro e w' ⟨rfl, rfl⟩)
        go_ret
        exact ⟨congrArg (fun z => Ending.returned (Value.int .u64 z)) Q6.out, rfl⟩
  | false =>
    have q5 := k5' rfl
    clear k5 k5'
    cases b6 with
    | true =>
      obtain rfl := k6 rfl
      clear k6 k6'
      cases b
      · have hu' := HF.out
        simp only [Bool.false_eq_true, if_false] at hu'
        subst hu'
        clear HF
        go_enter Tryd.func57, Tryd.ntmps57
        go_wp2_with (go_at_call 42; (first | (with_reducible refine C5.out.mono ?_) | (with_reducible refine C6.out.mono ?_)); rintro e w' ⟨rfl, rfl⟩)
        go_ret
        exact ⟨by first | rfl | exact congrArg (fun z => Ending.returned (Value.int .u64 z)) q5, rfl⟩
      · have hu' := HF.out
        simp only [if_true] at hu'
        subst hu'
        clear HF
        go_enter Tryd.func57, Tryd.ntmps57
        go_wp2_with (go_at_call 42; (first | (with_reducible refine C5.out.mono ?_) | (with_reducible refine C6.out.mono ?_)); rintro e w' ⟨rfl, rfl⟩)
        go_ret
        exact ⟨by first | rfl | exact congrArg (fun z => Ending.returned (Value.int .u64 z)) q5, rfl⟩
    | false =>
      have q6 := k6' rfl
      clear k6 k6'
      cases b
      · have hu' := HF.out
        simp only [Bool.false_eq_true, if_false] at hu'
        subst hu'
        clear HF
        go_enter Tryd.func57, Tryd.ntmps57
        go_wp2_with (go_at_call 42; (first | (with_reducible refine C5.out.mono ?_) | (with_reducible refine C6.out.mono ?_)); rintro e w' ⟨rfl, rfl⟩)
        go_ret
        exact ⟨by first | rfl | exact congrArg (fun z => Ending.returned (Value.int .u64 z)) q5, rfl⟩
      · have hu' := HF.out
        simp only [if_true] at hu'
        subst hu'
        clear HF
        go_enter Tryd.func57, Tryd.ntmps57
        go_wp2_with (go_at_call 42; (first | (with_reducible refine C5.out.mono ?_) | (with_reducible refine C6.out.mono ?_)); rintro e w' ⟨rfl, rfl⟩)
        go_ret
        exact ⟨by first | rfl | exact congrArg (fun z => Ending.returned (Value.int .u64 z)) q6, rfl⟩

def unusedO : Option Nat → Bool | none => true | some v => !(pte v).a
theorem unused_eq {hosts mem : List Nat} {x1 x2 : Int} {o : Option Nat} (ho : rd hosts mem x1 x2 = o) : unused hosts mem (x1, x2) = unusedO o := by
  subst ho; unfold unused unusedO; rfl
set_option maxRecDepth 100000 in
set_option maxHeartbeats 4000000 in
theorem rmarked_any (w : World) (p wb n : Nat) (hosts mem : List Nat) (a : Option Addr) (P : Path) (c : Nat) (M : RM w p wb hosts n mem) (hs : Sl w a P.ats) (hsm : P.ats.length ≤ 1000) :
    Calls Tryd.prog 28 #[.pointer (some ⟨p, 0, none⟩), .agg #[.slice a P.ats.length c, .int .i64 P.g, .bool P.r.w, .bool P.r.u, .bool P.r.x, .bool P.large, .bool P.dirty]] w
      fun e w' => e = .returned (.bool (!(P.ats.any (unused hosts mem)))) ∧ Below w.heap.size w w' := by
  obtain ⟨ats, g, r, lg, d⟩ := P
  dsimp only at *
  obtain ⟨res, hres⟩ : ∃ res, ats.any (unused hosts mem) = res := ⟨_, rfl⟩
  rw [hres]
  obtain ⟨len, hl⟩ : ∃ len, ats.length = len := ⟨_, rfl⟩
  rw [hl] at hsm ⊢
  have HL := Lib.hid hl
  have HR := Lib.hid hres
  have MM := Lib.hid M
  have SS := Lib.hid hs
  have hbd := M.bd
  have HBd := Lib.hid hbd
  clear hl hres M hs hbd
  go_enter Tryd.func28, Tryd.ntmps28
  go_wp2_with fail
  have B0 := Blk.new w 31 [.slice a len c, .int .i64 g, .bool r.w, .bool r.u, .bool r.x, .bool lg, .bool d]
  go_loopw [5] (fun i wr => ∃ k : Nat, k ≤ len ∧ i = .int .i64 k ∧ (ats.take k).any (unused hosts mem) = false ∧ Blk wr w.heap.size 31 [.slice a len c, .int .i64 g, .bool r.w, .bool r.u, .bool r.x, .bool lg, .bool d] ∧ Below w.heap.size w wr) (fun i _ => len - (intOf i).toNat)
  case atStart => exact ⟨0, by omega, rfl, by simp, B0, balR _ _⟩
  case round =>
    obtain ⟨k, hk, rfl, hno, hb, hB⟩ := hrel
    clear B0
    have HNo := Lib.hid hno
    clear hno
    have y0 := hb.cell (k := 0) rfl
    have yl := hb.lt
    by_cases hkl : k < len
    · obtain ⟨B, rest, rfl, hbs⟩ : ∃ b rest, a = some ⟨b, 0, none⟩ ∧ Blk wr b 40 (atCells ats ++ rest) := by
        rcases SS.out.past hB with ⟨_, h⟩ | h
        · rw [h] at HL; have := HL.out; simp at this; omega
        · exact h
      obtain ⟨c0, c1⟩ := Sl.at hbs k (by rw [HL.out]; exact hkl)
      obtain ⟨x, hx⟩ : ∃ x, ats.getD k (0, 0) = x := ⟨_, rfl⟩
      rw [hx] at c0 c1
      have hxm : x ∈ ats := by rw [← hx, getD_at _ (by rw [HL.out]; exact hkl)]; exact List.getElem_mem _
      have htake : (ats.take (k + 1)).any (unused hosts mem) = unused hosts mem x := by
        have hkl' : k < ats.length := by rw [HL.out]; exact hkl
        rw [List.take_add_one, List.getElem?_eq_getElem hkl', List.any_append, HNo.out, ← hx, getD_at _ hkl']; simp
      have hany : unused hosts mem x = true → res = true := fun h => by rw [← HR.out]; exact List.any_eq_true.2 ⟨x, hxm, h⟩
      obtain ⟨x1, x2⟩ := x
      dsimp only at c0 c1
      obtain ⟨o, ho⟩ : ∃ o, rd hosts mem x1 x2 = o := ⟨_, rfl⟩
      have hget := fun W (M : RM W p wb hosts n mem) => rmget_any M x1 x2 o ho
      have hun := unused_eq ho
      rw [hun] at htake hany
      have hv : ∀ v, o = some v → v < 2 ^ 64 := fun v hv => by have := rd_lt (hosts := hosts) HBd.out x1 x2; rw [ho, hv] at this; exact this
      have HGt := Lib.hid hget
      have HT := Lib.hid htake
      have HA := Lib.hid hany
      have Hb := Lib.hid hb
      have hlb := hbs.lt
      clear hx hxm htake hany hget ho hun hb hbs
      cases o with
      | none =>
        clear hv
        have hr : res = true := HA.out rfl
        go_wp2_with fail
        go_region_held3 (fun w' => w'.cell? ⟨w.heap.size, 0, none⟩ = some (.slice (some ⟨B, 0, none⟩) len c) ∧ w'.cell? ⟨B, k * 2, none⟩ = some (.int .i64 x1) ∧ w'.cell? ⟨B, k * 2 + 1, none⟩ = some (.int .i64 x2)) (go_keep) (first
          | (go_at_call 49; refine (HGt.out _ ((MM.out.past hB).past (below_of_drewN _ 1))).mono ?_; rintro e w' ⟨rfl, rfl⟩))
        all_goals go_wp2
        all_goals go_ret
        exact ⟨by rw [hr]; rfl, hB.trans (below_of_drewN _ _ |>.mono hB.size)⟩
      | some v =>
        have hv' := hv v rfl
        obtain ⟨en, hen⟩ : ∃ en, pte v = en := ⟨_, rfl⟩
        have hpt := fun W => refget_any W v en hen hv'
        have hfa := field_a en
        dsimp only [unusedO] at HT HA
        rw [hen] at HT HA
        have HP := Lib.hid hpt
        obtain ⟨ep, ew, eu, ea, ed, eps, enx, ebad, ef⟩ := en
        dsimp only at HP hfa HT HA
        clear hv hpt hen hv'
        cases ea with
        | true =>
          go_wp2_with fail
          go_region_held3 (fun w' => w'.cell? ⟨w.heap.size, 0, none⟩ = some (.slice (some ⟨B, 0, none⟩) len c) ∧ w'.cell? ⟨B, k * 2, none⟩ = some (.int .i64 x1) ∧ w'.cell? ⟨B, k * 2 + 1, none⟩ = some (.int .i64 x2)) (go_keep) (first
            | (go_at_call 49; refine (HGt.out _ ((MM.out.past hB).past (below_of_drewN _ 1))).mono ?_; rintro e w' ⟨rfl, rfl⟩))
          all_goals go_wp2_with (go_at_call 17; (with_reducible refine (HP.out _).mono ?_); rintro e W5 ⟨rfl, b5⟩)
          all_goals go_roundw
          case rel => exact ⟨k + 1, by omega, by simp, HT.out, Hb.out.past ((below_of_drewN _ 1).trans b5), hB.trans (((below_of_drewN _ 1).trans b5).mono hB.size)⟩
          case measure => simp [intOf]; omega
        | false =>
          have hr : res = true := HA.out rfl
          go_wp2_with fail
          go_region_held3 (fun w' => w'.cell? ⟨w.heap.size, 0, none⟩ = some (.slice (some ⟨B, 0, none⟩) len c) ∧ w'.cell? ⟨B, k * 2, none⟩ = some (.int .i64 x1) ∧ w'.cell? ⟨B, k * 2 + 1, none⟩ = some (.int .i64 x2)) (go_keep) (first
            | (go_at_call 49; refine (HGt.out _ ((MM.out.past hB).past (below_of_drewN _ 1))).mono ?_; rintro e w' ⟨rfl, rfl⟩))
          all_goals go_wp2_with (go_at_call 17; (with_reducible refine (HP.out _).mono ?_); rintro e W5 ⟨rfl, b5⟩)
          all_goals go_ret
          exact ⟨by rw [hr]; rfl, hB.trans (((below_of_drewN _ 1).trans b5).mono hB.size)⟩
    · obtain rfl : k = len := by omega
      have hr : res = false := by rw [← HR.out, ← HNo.out, ← HL.out, List.take_length]
      go_wp2
      go_ret
      exact ⟨by rw [hr]; rfl, hB⟩

theorem RM.keptB {w w' : World} {p wb n : Nat} {hosts mem : List Nat} (h : RM w p wb hosts n mem) {T : TypeId} {b : Nat} {xs : List Value} (hx : Blk w b T xs) (hT : T ≠ 36) (hk : Kept w.heap.size (fun k => k = wb) w w') : Blk w' b T xs :=
  hx.kept hk hx.lt (fun e => by subst e; exact hT (hx.inj h.row).2)
theorem RM.keptS {w w' : World} {p wb n : Nat} {hosts mem : List Nat} (h : RM w p wb hosts n mem) {a : Option Addr} {l : List (Int × Int)} (hs : Sl w a l) (hk : Kept w.heap.size (fun k => k = wb) w w') : Sl w' a l :=
  hs.kept hk (Nat.le_refl _) (fun b ⟨xs, hx⟩ e => by subst e; exact absurd (hx.inj h.row).2 (by decide))

set_option maxRecDepth 100000 in
set_option maxHeartbeats 8000000 in
theorem rmark_any (w : World) (p wb n : Nat) (hosts mem : List Nat) (a : Option Addr) (P : Path) (c : Nat) (written : Bool) (M : RM w p wb hosts n mem) (hs : Sl w a P.ats) (hsm : P.ats.length ≤ 1000) :
    Calls Tryd.prog 30 #[.pointer (some ⟨p, 0, none⟩), .agg #[.slice a P.ats.length c, .int .i64 P.g, .bool P.r.w, .bool P.r.u, .bool P.r.x, .bool P.large, .bool P.dirty], .bool written] w
      fun e w' => e = .returned (.bool (allIn hosts mem P.ats)) ∧ RM w' p wb hosts n (if allIn hosts mem P.ats then markMem hosts P.ats written mem else mem) ∧ Kept w.heap.size (fun k => k = wb) w w' := by
  obtain ⟨ats, g, r, lg, d⟩ := P
  dsimp only at *
  unfold allIn markMem
  obtain ⟨res, hres⟩ : ∃ res, (ats.any fun x => (rd hosts mem x.1 x.2).isNone) = res := ⟨_, rfl⟩
  rw [hres]
  obtain ⟨len, hl⟩ : ∃ len, ats.length = len := ⟨_, rfl⟩
  rw [hl] at hsm ⊢
  have HL := Lib.hid hl
  have HR := Lib.hid hres
  have MM := Lib.hid M
  have SS := Lib.hid hs
  have lwb := M.row.lt
  clear hl hres M hs
  go_enter Tryd.func30, Tryd.ntmps30
  go_wp2_with fail
  have B0 := Blk.new w 31 [.slice a len c, .int .i64 g, .bool r.w, .bool r.u, .bool r.x, .bool lg, .bool d]
  go_loopw [7] (fun i wr => ∃ k : Nat, k ≤ len ∧ i = .int .i64 k ∧ ((ats.take k).any fun x => (rd hosts mem x.1 x.2).isNone) = false ∧ Blk wr w.heap.size 31 [.slice a len c, .int .i64 g, .bool r.w, .bool r.u, .bool r.x, .bool lg, .bool d] ∧ Below w.heap.size w wr) (fun i _ => len - (intOf i).toNat)
  case atStart => exact ⟨0, by omega, rfl, by simp, B0, balR _ _⟩
  case round =>
    obtain ⟨k, hk, rfl, hno, hb, hB⟩ := hrel
    clear B0
    have HNo := Lib.hid hno
    clear hno
    have y0 := hb.cell (k := 0) rfl
    have yl := hb.lt
    by_cases hkl : k < len
    · obtain ⟨B, rest, rfl, hbs⟩ : ∃ b rest, a = some ⟨b, 0, none⟩ ∧ Blk wr b 40 (atCells ats ++ rest) := by
        rcases SS.out.past hB with ⟨_, h⟩ | h
        · rw [h] at HL; have := HL.out; simp at this; omega
        · exact h
      obtain ⟨c0, c1⟩ := Sl.at hbs k (by rw [HL.out]; exact hkl)
      obtain ⟨x, hx⟩ : ∃ x, ats.getD k (0, 0) = x := ⟨_, rfl⟩
      rw [hx] at c0 c1
      have hxm : x ∈ ats := by rw [← hx, getD_at _ (by rw [HL.out]; exact hkl)]; exact List.getElem_mem _
      have htake : ((ats.take (k + 1)).any fun x => (rd hosts mem x.1 x.2).isNone) = (rd hosts mem x.1 x.2).isNone := by
        have hkl' : k < ats.length := by rw [HL.out]; exact hkl
        rw [List.take_add_one, List.getElem?_eq_getElem hkl', List.any_append, HNo.out, ← hx, getD_at _ hkl']; simp
      have hany : (rd hosts mem x.1 x.2).isNone = true → res = true := fun h => by rw [← HR.out]; exact List.any_eq_true.2 ⟨x, hxm, h⟩
      obtain ⟨x1, x2⟩ := x
      dsimp only at c0 c1 htake hany
      obtain ⟨o, ho⟩ : ∃ o, rd hosts mem x1 x2 = o := ⟨_, rfl⟩
      have hget := fun W (M : RM W p wb hosts n mem) => rmget_any M x1 x2 o ho
      rw [ho] at htake hany
      have HGt := Lib.hid hget
      have HT := Lib.hid htake
      have HA := Lib.hid hany
      have Hb := Lib.hid hb
      have hlb := hbs.lt
      clear hx hxm htake hany hget ho hb hbs
      cases o with
      | none =>
        have hr : res = true := HA.out rfl
        subst hr
        go_wp2_with fail
        go_region_held3 (fun w' => w'.cell? ⟨w.heap.size, 0, none⟩ = some (.slice (some ⟨B, 0, none⟩) len c) ∧ w'.cell? ⟨B, k * 2, none⟩ = some (.int .i64 x1) ∧ w'.cell? ⟨B, k * 2 + 1, none⟩ = some (.int .i64 x2)) (go_keep) (first
          | (go_at_call 49; refine (HGt.out _ ((MM.out.past hB).past (below_of_drewN _ 1))).mono ?_; rintro e w' ⟨rfl, rfl⟩))
        all_goals go_wp2
        all_goals go_ret
        exact ⟨rfl, by simpa using (MM.out.past hB).past (below_of_drewN _ _), Kept.of_below (hB.trans (below_of_drewN _ _ |>.mono hB.size))⟩
      | some v =>
        go_wp2_with fail
        go_region_held3 (fun w' => w'.cell? ⟨w.heap.size, 0, none⟩ = some (.slice (some ⟨B, 0, none⟩) len c) ∧ w'.cell? ⟨B, k * 2, none⟩ = some (.int .i64 x1) ∧ w'.cell? ⟨B, k * 2 + 1, none⟩ = some (.int .i64 x2)) (go_keep) (first
          | (go_at_call 49; refine (HGt.out _ ((MM.out.past hB).past (below_of_drewN _ 1))).mono ?_; rintro e w' ⟨rfl, rfl⟩))
        all_goals go_wp2
        all_goals go_roundw
        case rel => exact ⟨k + 1, by omega, by simp, HT.out, Hb.out.past (below_of_drewN _ _), hB.trans ((below_of_drewN _ _).mono hB.size)⟩
        case measure => simp [intOf]; omega
    · obtain rfl : k = len := by omega
      have hr : res = false := by rw [← HR.out, ← HNo.out, ← HL.out, List.take_length]
      subst hr
      have hin : ∀ j, j < k → (rd hosts mem (ats.getD j (0, 0)).1 (ats.getD j (0, 0)).2).isSome = true := by
        intro j hj
        have h := List.any_eq_false.1 HR.out (ats.getD j (0, 0)) (by rw [getD_at _ (by rw [HL.out]; exact hj)]; exact List.getElem_mem _)
        cases ho : rd hosts mem (ats.getD j (0, 0)).1 (ats.getD j (0, 0)).2 with
        | none => rw [ho] at h; simp at h
        | some v => rfl
      have HIN := Lib.hid hin
      have M1 := MM.out.past hB
      have S1 := SS.out.past hB
      have b1 := hb
      have K1 : Kept w.heap.size (fun k => k = wb) w wr := Kept.of_below hB
      obtain ⟨wo, hwo⟩ : ∃ wo : World, wo = wr := ⟨_, rfl⟩
      subst hwo
      clear hin hb hkl HNo HR hk
      go_wp2_with fail
      go_loopw [10] (fun i wr => ∃ j : Nat, j ≤ k ∧ i = .int .i64 j ∧ RM wr p wb hosts n (markTo hosts ats written mem j) ∧ Sl wr a ats ∧
        Blk wr w.heap.size 31 [.slice a k c, .int .i64 g, .bool r.w, .bool r.u, .bool r.x, .bool lg, .bool d] ∧ Kept w.heap.size (fun k => k = wb) w wr) (fun i _ => k - (intOf i).toNat)
      case atStart => exact ⟨0, by omega, rfl, M1, S1, b1, K1⟩
      case round =>
        obtain ⟨j, hj, rfl, MR, SR, y2, KR⟩ := hrel
        clear M1 S1 b1 K1 y0 yl hB
        have y0 := y2.cell (k := 0) rfl
        have yl := y2.lt
        by_cases hjl : j < k
        · obtain ⟨b, rest, rfl, hb⟩ : ∃ b rest, a = some ⟨b, 0, none⟩ ∧ Blk wr b 40 (atCells ats ++ rest) := by
            rcases SR with ⟨_, h⟩ | h
            · rw [h] at HL; have := HL.out; simp at this; omega
            · exact h
          obtain ⟨x, hx⟩ : ∃ x, ats.getD j (0, 0) = x := ⟨_, rfl⟩
          obtain ⟨c0, c1⟩ := Sl.at hb j (by rw [HL.out]; exact hjl)
          rw [hx] at c0 c1
          obtain ⟨mk, hmk⟩ : ∃ mk, markTo hosts ats written mem j = mk := ⟨_, rfl⟩
          rw [hmk] at MR
          obtain ⟨v, hv⟩ : ∃ v, (rd hosts mk x.1 x.2).getD 0 = v := ⟨_, rfl⟩
          have hvb : v < 2 ^ 64 := by rw [← hv]; exact rd_lt (hosts := hosts) MR.bd x.1 x.2
          obtain ⟨bl, hbl⟩ : ∃ bl, (written && decide (j + 1 = k)) = bl := ⟨_, rfl⟩
          obtain ⟨u, hu⟩ : ∃ u, usedW v bl = u := ⟨_, rfl⟩
          have hub : u < 2 ^ 64 := by rw [← hu]; exact usedW_lt hvb _
          have hnext : markTo hosts ats written mem (j + 1) = Go.Proofs.YtlldbfpccdmclaaDoor.wr hosts mk x.1 x.2 u := by
            simp only [markTo, hmk, hx, hv, HL.out, hbl, hu]
          have HN := Lib.hid hnext
          obtain ⟨x1, x2⟩ := x
          have HX := Lib.hid hx
          dsimp only at c0 c1 hv HN
          have husd := fun W => rused_any W v bl u hu hvb
          have hget : ∀ W, RM W p wb hosts n mk → Calls Tryd.prog 49 #[.pointer (some ⟨p, 0, none⟩), .int .i64 x1, .int .i64 x2] W
              fun e w' => (∃ b, e = .returned (.tuple #[.int .u64 (v : Int), .bool b])) ∧ W = w' := fun W hM => (rmget_any hM x1 x2 _ rfl).mono (fun e w' ⟨h1, h2⟩ => ⟨⟨(rd hosts mk x1 x2).isSome, by rw [h1, hv]⟩, h2⟩)
          have HG := Lib.hid hget
          have HU := Lib.hid husd
          have hlb := hb.lt
          have hcase : (written = false ∧ bl = false) ∨ (written = true ∧ bl = true ∧ j + 1 = k) ∨ (written = true ∧ bl = false ∧ ¬ j + 1 = k) := by
            rw [← hbl]
            cases written
            · exact .inl ⟨rfl, rfl⟩
            · by_cases h : j + 1 = k
              · exact .inr (.inl ⟨rfl, by simp [h], h⟩)
              · exact .inr (.inr ⟨rfl, by simp [h], h⟩)
          have HC := Lib.hid hcase
          have fin : ∀ wx, RM wx p wb hosts n (Go.Proofs.YtlldbfpccdmclaaDoor.wr hosts mk x1 x2 u) → Kept wr.heap.size (fun k => k = wb) wr wx → (∃ j' : Nat, j' ≤ k ∧ Value.int .i64 ((j : Int) + 1) = .int .i64 j' ∧ RM wx p wb hosts n (markTo hosts ats written mem j') ∧ Sl wx (some ⟨b, 0, none⟩) ats ∧
              Blk wx w.heap.size 31 [.slice (some ⟨b, 0, none⟩) k c, .int .i64 g, .bool r.w, .bool r.u, .bool r.x, .bool lg, .bool d] ∧ Kept w.heap.size (fun k => k = wb) w wx) := by
            intro wx hM hK
            exact ⟨j + 1, by omega, by simp, by rw [HN.out]; exact hM, MR.keptS SR hK, MR.keptB y2 (by decide) hK, KR.trans (hK.mono KR.size (fun _ _ h => h))⟩
          have HF := Lib.hid fin
          have HM := Lib.hid MR
          have HY := Lib.hid y2
          have HB := Lib.hid hb
          clear hnext hget husd hu hv hmk hx hj hcase hbl fin MR y2 hb KR SR
          go_wp2_with fail
          go_region_held3 (fun w' => w'.cell? ⟨w.heap.size, 0, none⟩ = some (.slice (some ⟨b, 0, none⟩) k c) ∧ w'.cell? ⟨b, j * 2, none⟩ = some (.int .i64 x1) ∧ w'.cell? ⟨b, j * 2 + 1, none⟩ = some (.int .i64 x2)) (go_keep) (first
            | (go_at_call 49; refine (HG.out _ (HM.out.past (below_of_drewN _ 1))).mono ?_; rintro e w' ⟨⟨isb, rfl⟩, rfl⟩))
          go_wp2_with fail
          rcases HC.out with ⟨rfl, rfl⟩ | ⟨rfl, rfl, hkk⟩ | ⟨rfl, rfl, hkk⟩
          · refine wp_region_mine (fun w' => w'.cell? ⟨w.heap.size, 0, none⟩ = some (.slice (some ⟨b, 0, none⟩) k c) ∧ w'.cell? ⟨b, j * 2, none⟩ = some (.int .i64 x1) ∧ w'.cell? ⟨b, j * 2 + 1, none⟩ = some (.int .i64 x2)) (by kernel_rfl) (by go_keep) (fun hHeld => ?_)
            refine' wpAnyH_take (i := 0) (v := _) rfl (by kernel_rfl) (by kernel_rfl) (by kernel_rfl) (fun _ _ _ h => h) (Or.inl ⟨by with_unfolding_all rfl, ?_⟩) (by assumption) ?_
            rotate_left
            focus (intro w hSw; (try dsimp only at hSw); go_simp; try (with_reducible rfl))
            try simp only [List.getElem_toArray, List.getElem_cons_zero, Act.put, List.setIfInBounds_toArray, List.set_cons_zero, List.set_cons_succ]
            refine' wpAnyH_take (i := 1) (v := _) rfl (by kernel_rfl) (by kernel_rfl) (by kernel_rfl) (fun _ _ _ h => h) (Or.inl ⟨by with_unfolding_all rfl, ?_⟩) (by assumption) ?_
            rotate_left
            focus (intro w hSw; (try dsimp only at hSw); go_simp; try (with_reducible rfl))
            try simp only [List.getElem_toArray, List.getElem_cons_zero, List.getElem_cons_succ, Act.put, List.setIfInBounds_toArray, List.set_cons_zero, List.set_cons_succ]
            refine' wpAnyH_take (i := 2) (v := _) rfl (by kernel_rfl) (by kernel_rfl) (by kernel_rfl) (fun _ _ _ h => h) (Or.inl ⟨by with_unfolding_all rfl, ?_⟩) (by assumption) ?_
            rotate_left
            focus (intro w hSw; (try dsimp only at hSw); go_simp; try (with_reducible rfl))
            try simp only [List.getElem_toArray, List.getElem_cons_zero, List.getElem_cons_succ, Act.put, List.setIfInBounds_toArray, List.set_cons_zero, List.set_cons_succ]
            refine' wpAnyH_take (i := 3) (v := _) rfl (by kernel_rfl) (by kernel_rfl) (by kernel_rfl) (fun _ _ _ h => h) (Or.inl ⟨by with_unfolding_all rfl, ?_⟩) (by assumption) ?_
            rotate_left
            focus (intro w hSw; (try dsimp only at hSw); go_simp; try (with_reducible rfl))
            try simp only [List.getElem_toArray, List.getElem_cons_zero, List.getElem_cons_succ, Act.put, List.setIfInBounds_toArray, List.set_cons_zero, List.set_cons_succ]
            refine' wpAnyH_take (i := 4) (v := _) rfl (by kernel_rfl) (by kernel_rfl) (by kernel_rfl) (fun _ _ _ h => h) (Or.inl ⟨by with_unfolding_all rfl, ?_⟩) (by assumption) ?_
            rotate_left
            focus (intro w hSw; (try dsimp only at hSw); go_simp; try (with_reducible rfl))
            try simp only [List.getElem_toArray, List.getElem_cons_zero, List.getElem_cons_succ, Act.put, List.setIfInBounds_toArray, List.set_cons_zero, List.set_cons_succ]
            refine' wpAnyH_take (i := 5) (v := _) rfl (by kernel_rfl) (by kernel_rfl) (by kernel_rfl) (fun _ _ _ h => h) (Or.inl ⟨by with_unfolding_all rfl, ?_⟩) (by assumption) ?_
            rotate_left
            focus (intro w hSw; (try dsimp only at hSw); go_simp; try (with_reducible rfl))
            try simp only [List.getElem_toArray, List.getElem_cons_zero, List.getElem_cons_succ, Act.put, List.setIfInBounds_toArray, List.set_cons_zero, List.set_cons_succ]
            refine' wpAnyH_take (i := 6) (v := _) rfl (by kernel_rfl) (by kernel_rfl) (by kernel_rfl) (fun _ _ _ h => h) (Or.inl ⟨by with_unfolding_all rfl, ?_⟩) (by assumption) ?_
            rotate_left
            focus (intro w hSw; (try dsimp only at hSw); go_simp; try (with_reducible rfl))
            try simp only [List.getElem_toArray, List.getElem_cons_zero, List.getElem_cons_succ, Act.put, List.setIfInBounds_toArray, List.set_cons_zero, List.set_cons_succ]
            refine' wpAnyH_take (i := 7) (v := _) rfl (by kernel_rfl) (by kernel_rfl) (by kernel_rfl) (fun _ _ _ h => h) (Or.inl ⟨by with_unfolding_all rfl, ?_⟩) (by assumption) ?_
            rotate_left
            focus (intro w hSw; (try dsimp only at hSw); go_simp; try (with_reducible rfl))
            try simp only [List.getElem_toArray, List.getElem_cons_zero, List.getElem_cons_succ, Act.put, List.setIfInBounds_toArray, List.set_cons_zero, List.set_cons_succ]
            refine' wpAnyH_take (i := 8) (v := _) rfl (by kernel_rfl) (by kernel_rfl) (by kernel_rfl) (fun _ _ _ h => h) (Or.inl ⟨by with_unfolding_all rfl, ?_⟩) (by assumption) ?_
            rotate_left
            focus (intro w hSw; (try dsimp only at hSw); go_simp; try (with_reducible rfl))
            try simp only [List.getElem_toArray, List.getElem_cons_zero, List.getElem_cons_succ, Act.put, List.setIfInBounds_toArray, List.set_cons_zero, List.set_cons_succ]
            refine' wpAnyH_take (i := 9) (v := _) rfl (by kernel_rfl) (by kernel_rfl) (by kernel_rfl) (fun _ _ _ h => h) (Or.inl ⟨by with_unfolding_all rfl, ?_⟩) (by assumption) ?_
            rotate_left
            focus (intro w hSw; (try dsimp only at hSw); go_simp; try (with_reducible rfl))
            try simp only [List.getElem_toArray, List.getElem_cons_zero, List.getElem_cons_succ, Act.put, List.setIfInBounds_toArray, List.set_cons_zero, List.set_cons_succ]
            refine' wpAnyH_take (i := 10) (v := _) rfl (by kernel_rfl) (by kernel_rfl) (by kernel_rfl) (fun _ _ _ h => h) (Or.inl ⟨by with_unfolding_all rfl, ?_⟩) (by assumption) ?_
            rotate_left
            focus (intro w hSw; (try dsimp only at hSw); go_simp; try (with_reducible rfl))
            try simp only [List.getElem_toArray, List.getElem_cons_zero, List.getElem_cons_succ, Act.put, List.setIfInBounds_toArray, List.set_cons_zero, List.set_cons_succ]
            refine' wpAnyH_take (i := 11) (v := _) rfl (by kernel_rfl) (by kernel_rfl) (by kernel_rfl) (fun _ _ _ h => h) (Or.inl ⟨by with_unfolding_all rfl, ?_⟩) (by assumption) ?_
            rotate_left
            focus (intro w hSw; (try dsimp only at hSw); go_simp; try (with_reducible rfl))
            try simp only [List.getElem_toArray, List.getElem_cons_zero, List.getElem_cons_succ, Act.put, List.setIfInBounds_toArray, List.set_cons_zero, List.set_cons_succ]
            refine' wpAnyH_take (i := 12) (v := _) rfl (by kernel_rfl) (by kernel_rfl) (by kernel_rfl) (fun _ _ _ h => h) (Or.inl ⟨by with_unfolding_all rfl, ?_⟩) (by assumption) ?_
            rotate_left
            focus (intro w hSw; (try dsimp only at hSw); go_simp; try (with_reducible rfl))
            try simp only [List.getElem_toArray, List.getElem_cons_zero, List.getElem_cons_succ, Act.put, List.setIfInBounds_toArray, List.set_cons_zero, List.set_cons_succ]
            refine' wpAnyH_take (i := 13) (v := _) rfl (by kernel_rfl) (by kernel_rfl) (by kernel_rfl) (fun _ _ _ h => h) (Or.inl ⟨by with_unfolding_all rfl, ?_⟩) (by assumption) ?_
            rotate_left
            focus (intro w hSw; (try dsimp only at hSw); go_simp; try (with_reducible rfl))
            try simp only [List.getElem_toArray, List.getElem_cons_zero, List.getElem_cons_succ, Act.put, List.setIfInBounds_toArray, List.set_cons_zero, List.set_cons_succ]
            refine' wpAnyH_take (i := 14) (v := _) rfl (by kernel_rfl) (by kernel_rfl) (by kernel_rfl) (fun _ _ _ h => h) (Or.inl ⟨by with_unfolding_all rfl, ?_⟩) (by assumption) ?_
            rotate_left
            focus (intro w hSw; (try dsimp only at hSw); go_simp; try (with_reducible rfl))
            try simp only [List.getElem_toArray, List.getElem_cons_zero, List.getElem_cons_succ, Act.put, List.setIfInBounds_toArray, List.set_cons_zero, List.set_cons_succ]
            refine' wpAnyH_take (i := 15) (v := _) rfl (by kernel_rfl) (by kernel_rfl) (by kernel_rfl) (fun _ _ _ h => h) (Or.inl ⟨by with_unfolding_all rfl, ?_⟩) (by assumption) ?_
            rotate_left
            focus (intro w hSw; (try dsimp only at hSw); go_simp; try (with_reducible rfl))
            try simp only [List.getElem_toArray, List.getElem_cons_zero, List.getElem_cons_succ, Act.put, List.setIfInBounds_toArray, List.set_cons_zero, List.set_cons_succ]
            refine wpAnyH_take (i := 16) (v := undef) rfl (by kernel_rfl) (by kernel_rfl) (by kernel_rfl) (fun _ _ _ h => h) (Or.inr ⟨by with_unfolding_all rfl, rfl⟩) (by assumption) ?_
            try simp only [List.getElem_toArray, List.getElem_cons_zero, List.getElem_cons_succ, Act.put, List.setIfInBounds_toArray, List.set_cons_zero, List.set_cons_succ]
            refine wpAnyH_take (i := 17) (v := undef) rfl (by kernel_rfl) (by kernel_rfl) (by kernel_rfl) (fun _ _ _ h => h) (Or.inr ⟨by with_unfolding_all rfl, rfl⟩) (by assumption) ?_
            try simp only [List.getElem_toArray, List.getElem_cons_zero, List.getElem_cons_succ, Act.put, List.setIfInBounds_toArray, List.set_cons_zero, List.set_cons_succ]
            refine wpAnyH_take (i := 18) (v := undef) rfl (by kernel_rfl) (by kernel_rfl) (by kernel_rfl) (fun _ _ _ h => h) (Or.inr ⟨by with_unfolding_all rfl, rfl⟩) (by assumption) ?_
            try simp only [List.getElem_toArray, List.getElem_cons_zero, List.getElem_cons_succ, Act.put, List.setIfInBounds_toArray, List.set_cons_zero, List.set_cons_succ]
            refine wpAnyH_take (i := 19) (v := undef) rfl (by kernel_rfl) (by kernel_rfl) (by kernel_rfl) (fun _ _ _ h => h) (Or.inr ⟨by with_unfolding_all rfl, rfl⟩) (by assumption) ?_
            try simp only [List.getElem_toArray, List.getElem_cons_zero, List.getElem_cons_succ, Act.put, List.setIfInBounds_toArray, List.set_cons_zero, List.set_cons_succ]
            refine wpAnyH_take (i := 20) (v := undef) rfl (by kernel_rfl) (by kernel_rfl) (by kernel_rfl) (fun _ _ _ h => h) (Or.inr ⟨by with_unfolding_all rfl, rfl⟩) (by assumption) ?_
            try simp only [List.getElem_toArray, List.getElem_cons_zero, List.getElem_cons_succ, Act.put, List.setIfInBounds_toArray, List.set_cons_zero, List.set_cons_succ]
            refine wpAnyH_take (i := 21) (v := undef) rfl (by kernel_rfl) (by kernel_rfl) (by kernel_rfl) (fun _ _ _ h => h) (Or.inr ⟨by with_unfolding_all rfl, rfl⟩) (by assumption) ?_
            try simp only [List.getElem_toArray, List.getElem_cons_zero, List.getElem_cons_succ, Act.put, List.setIfInBounds_toArray, List.set_cons_zero, List.set_cons_succ]
            refine' wpAnyH_take (i := 22) (v := _) rfl (by kernel_rfl) (by kernel_rfl) (by kernel_rfl) (fun _ _ _ h => h) (Or.inl ⟨by with_unfolding_all rfl, ?_⟩) (by assumption) ?_
            rotate_left
            focus (intro w hSw; (try dsimp only at hSw); go_simp; try (with_reducible rfl))
            try simp only [List.getElem_toArray, List.getElem_cons_zero, List.getElem_cons_succ, Act.put, List.setIfInBounds_toArray, List.set_cons_zero, List.set_cons_succ]
            refine wpAnyH_ready (rs := [23]) (by kernel_rfl) (by simp) ?_
            refine AllReadyH.cons rfl (fun K hK => ?_) AllReadyH.nil
            rw [if_pos (by with_unfolding_all rfl)]
            go_simp
            go_at_call 57
            refine (HU.out _).mono ?_
            rintro e W3 ⟨rfl, rfl⟩
            refine hK.out _ _ (by (try dsimp only); go_keep) (fun hHeld => ?_)
            clear hK K
            try simp only [List.getElem_toArray, List.getElem_cons_zero, List.getElem_cons_succ, Act.put, List.setIfInBounds_toArray, List.set_cons_zero, List.set_cons_succ]
            refine wpAnyH_ready (rs := [24]) (by kernel_rfl) (by simp) ?_
            refine AllReadyH.cons rfl (fun K hK => ?_) AllReadyH.nil
            rw [if_pos (by with_unfolding_all rfl)]
            go_simp
            go_at_call 48
            refine (rmset_any (HM.out.past (below_of_drewN _ 2)) x1 x2 u hub).mono ?_
            rintro e W3 ⟨⟨sb, rfl⟩, hM3, hK3', hS3⟩
            have hK3 := hK3'.undrew
            have f0 := (HM.out.keptB HY.out (by decide) hK3).cell (k := 0) rfl
            have f1 := (Sl.at (HM.out.keptB HB.out (by decide) hK3) j (by rw [HL.out]; exact hjl)).1
            have f2 := (Sl.at (HM.out.keptB HB.out (by decide) hK3) j (by rw [HL.out]; exact hjl)).2
            rw [HX.out] at f1 f2
            refine hK.out _ _ (by (try dsimp only); go_keep) (fun hHeld => ?_)
            clear hK K
            try simp only [List.getElem_toArray, List.getElem_cons_zero, List.getElem_cons_succ, Act.put, List.setIfInBounds_toArray, List.set_cons_zero, List.set_cons_succ]
            refine wpAnyH_done (by kernel_rfl) ?_ _
            refine OnlyN_normal ?_
            clear HC
            all_goals go_wp2
            all_goals go_roundw
            case rel => exact HF.out _ hM3 hK3
            case measure => simp [intOf]; omega
          · have hE0 : IntKind.i64.wrap ((k : Int) - 1) = (k : Int) - 1 := by rw [IntKind.wrap_i64]; omega
            have hE : ((j : Int) == IntKind.i64.wrap ((k : Int) - 1)) = true := by rw [hE0]; first | (rw [beq_iff_eq]; omega) | (rw [beq_eq_false_iff_ne]; omega)
            have HE := Lib.hid hE
            clear hE hE0 HC
            go_region_held3 (fun w' => w'.cell? ⟨w.heap.size, 0, none⟩ = some (.slice (some ⟨b, 0, none⟩) k c) ∧ w'.cell? ⟨b, j * 2, none⟩ = some (.int .i64 x1) ∧ w'.cell? ⟨b, j * 2 + 1, none⟩ = some (.int .i64 x2)) (go_keep) (first
              | (go_at_call 57; rw [HE.out]; refine (HU.out _).mono ?_; rintro e W3 ⟨rfl, rfl⟩)
              | (go_at_call 48; refine (rmset_any (HM.out.past (below_of_drewN _ 2)) x1 x2 u hub).mono ?_; rintro e W3 ⟨⟨sb, rfl⟩, hM3, hK3', hS3⟩; have hK3 := hK3'.undrew; have f0 := (HM.out.keptB HY.out (by decide) hK3).cell (k := 0) rfl; have f1 := (Sl.at (HM.out.keptB HB.out (by decide) hK3) j (by rw [HL.out]; exact hjl)).1; have f2 := (Sl.at (HM.out.keptB HB.out (by decide) hK3) j (by rw [HL.out]; exact hjl)).2; rw [HX.out] at f1 f2))
            all_goals go_wp2
            all_goals go_roundw
            case rel => exact HF.out _ hM3 hK3
            case measure => simp [intOf]; omega
          · have hE0 : IntKind.i64.wrap ((k : Int) - 1) = (k : Int) - 1 := by rw [IntKind.wrap_i64]; omega
            have hE : ((j : Int) == IntKind.i64.wrap ((k : Int) - 1)) = false := by rw [hE0]; first | (rw [beq_iff_eq]; omega) | (rw [beq_eq_false_iff_ne]; omega)
            have HE := Lib.hid hE
            clear hE hE0 HC
            go_region_held3 (fun w' => w'.cell? ⟨w.heap.size, 0, none⟩ = some (.slice (some ⟨b, 0, none⟩) k c) ∧ w'.cell? ⟨b, j * 2, none⟩ = some (.int .i64 x1) ∧ w'.cell? ⟨b, j * 2 + 1, none⟩ = some (.int .i64 x2)) (go_keep) (first
              | (go_at_call 57; rw [HE.out]; refine (HU.out _).mono ?_; rintro e W3 ⟨rfl, rfl⟩)
              | (go_at_call 48; refine (rmset_any (HM.out.past (below_of_drewN _ 2)) x1 x2 u hub).mono ?_; rintro e W3 ⟨⟨sb, rfl⟩, hM3, hK3', hS3⟩; have hK3 := hK3'.undrew; have f0 := (HM.out.keptB HY.out (by decide) hK3).cell (k := 0) rfl; have f1 := (Sl.at (HM.out.keptB HB.out (by decide) hK3) j (by rw [HL.out]; exact hjl)).1; have f2 := (Sl.at (HM.out.keptB HB.out (by decide) hK3) j (by rw [HL.out]; exact hjl)).2; rw [HX.out] at f1 f2))
            all_goals go_wp2
            all_goals go_roundw
            case rel => exact HF.out _ hM3 hK3
            case measure => simp [intOf]; omega
        · obtain rfl : j = k := by omega
          go_wp2
          go_ret
          exact ⟨rfl, MR, KR⟩
end Go.Proofs.YtlldbfpccdmclaaDoor
