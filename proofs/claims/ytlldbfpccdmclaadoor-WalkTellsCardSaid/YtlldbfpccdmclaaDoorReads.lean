/- silhouettelaw08.reads: the places that a walk reads. -/
import Derived.Test.YtlldbfpccdmclaaDoorAll
import Derived.Test.YtlldbfpccdmclaaDoorHead
import Derived.Test.YtlldbfpccdmclaaDoorRefE
namespace Go.Proofs.YtlldbfpccdmclaaDoor
open Go.RowKit

def goneE (e : Pte) : Bool := !e.p || e.ps || e.bad
def readsFrom (get : Int → Int → Option Nat) (page : Int) : Nat → Int → List (Int × Int)
  | 0, _ => []
  | n + 1, g => match get g (ix page ((n + 1 : Nat) : Int)) with
    | none => []
    | some v => (g, ix page ((n + 1 : Nat) : Int)) :: (if goneE (pte v) then [] else readsFrom get page n ((pte v).f : Int))
theorem readsFrom_len (get : Int → Int → Option Nat) (page : Int) : ∀ (n : Nat) (g : Int), (readsFrom get page n g).length ≤ n := by
  intro n
  induction n with
  | zero => intro g; simp [readsFrom]
  | succ n ih =>
    intro g
    simp only [readsFrom]
    split
    · simp
    · split
      · simp
      · have := ih ((pte ‹Nat›).f : Int)
        simp only [List.length_cons]; omega
theorem own_past {w w' : World} {base : Nat} {e : TypeId} {size : Nat} {v : Value} {n : Nat} {xs : List Value} (h : w.ownsRow base e size v n xs) (hb : Below w.heap.size w w') : w'.ownsRow base e size v n xs :=
  h.kept (grownBy_of_below hb) (by cases v.ownBlock <;> simp)

theorem row_snoc {W : World} {base : Nat} {v : Value} {done : List (Int × Int)} {g i : Int} (h : W.ownsRow base 40 2 v (done.length + 1) (atCells done ++ [.int .i64 g, .int .i64 i])) :
    W.ownsRow base 40 2 v (done ++ [(g, i)]).length (atCells (done ++ [(g, i)])) := by rw [atCells_snoc]; simpa using h
set_option maxRecDepth 100000 in
set_option maxHeartbeats 2000000 in
theorem reads_any (w : World) (p fb : Nat) (mem : List Nat) (root page : Int) (M : GM w p fb h16 16 mem) (rs : List (Int × Int)) (hrs : readsFrom (rd h16 mem) page 3 root = rs) :
    Calls Tryd.prog 34 #[.pointer (some ⟨p, 0, none⟩), .int .i64 root, .int .i64 page] w
      fun e w' => (∃ a c, e = .returned (.slice a rs.length c) ∧ Sl w' a rs) ∧ Below w.heap.size w w' := by
  obtain ⟨i0, hi, hz0, hz1, hz2⟩ := info_parts info_at
  have MM := Lib.hid M
  have H1 := Lib.hid hi
  have HZ0 := Lib.hid hz0
  have HZ1 := Lib.hid hz1
  have HZ2 := Lib.hid hz2
  have HR := Lib.hid hrs
  clear hi hz0 hz1 hz2 M hrs
  go_enter Tryd.func34, Tryd.ntmps34
  go_wp2_with fail
  go_loopw [7, 8, 9] (fun v f i wr => ∃ (lv : Nat) (g : Int) (done : List (Int × Int)), lv ≤ 3 ∧ i = .int .i64 lv ∧ f = .int .i64 g ∧ done.length + lv = 3 ∧ wr.ownsRow w.heap.size 40 2 v done.length (atCells done) ∧ done ++ readsFrom (rd h16 mem) page lv g = rs ∧ Below w.heap.size w wr) (fun _ _ i _ => (intOf i).toNat)
  case atStart => exact ⟨3, root, [], by omega, rfl, rfl, rfl, World.ownsRow_nil _ _ _ _, by simpa using HR.out, Below.refl _ _⟩
  case round =>
    obtain ⟨lv, g, done, hlv, rfl, rfl, hdl, hown, hrest, hB⟩ := hrel
    have HO := Lib.hid hown
    have HD := Lib.hid hdl
    have HL3 := Lib.hid hlv
    clear hown hdl hlv
    have hsz := hB.size
    cases lv with
    | zero =>
      have HE := Lib.hid hrest
      clear hrest
      go_wp2_with fail
      go_ret
      have he := HE.out
      simp only [readsFrom, List.append_nil] at he
      subst he
      obtain ⟨a, c, rfl, hs⟩ := Sl.of_row HO.out
      exact ⟨⟨a, c, rfl, hs⟩, hB⟩
    | succ n =>
      obtain ⟨lv, hl⟩ : ∃ lv, n + 1 = lv := ⟨_, rfl⟩
      simp only [readsFrom] at hrest
      rw [hl] at hrest ⊢
      obtain ⟨i, hi⟩ : ∃ i, ix page (lv : Int) = i := ⟨_, rfl⟩
      have hix := fun W => ridx_any W page (lv : Int)
      rw [hi] at hrest
      simp only [hi] at hix
      have h1 : (1 : Int) ≤ (lv : Int) := by omega
      have hwp : wrap64 ((lv : Int) - 1) = (n : Int) := by have := HL3.out; unfold wrap64; omega
      have HWp := Lib.hid hwp
      clear hwp
      have HI := Lib.hid hix
      have HLn := Lib.hid hl
      have hd1 : decide ((1 : Int) ≤ (lv : Int)) = true := by rw [decide_eq_true_iff]; exact h1
      clear hix hi h1
      obtain ⟨o, ho⟩ : ∃ o, rd h16 mem g i = o := ⟨_, rfl⟩
      have hgt := fun W (hM : GM W p fb h16 16 mem) => gm_get hM g i o ho
      rw [ho] at hrest
      cases o with
      | none =>
        have HE := Lib.hid hrest
        have HGt := Lib.hid hgt
        clear hrest hgt ho hl
        go_wp2_with (first
          | (go_at_call 18; (with_reducible refine (HI.out _).mono ?_); rintro e W1 ⟨rfl, rfl⟩)
          | (go_at_call 16; (with_reducible refine (HGt.out _ ((MM.out.past hB).past (bal _ _))).mono ?_); rintro e W2 ⟨rfl, rfl⟩))
        go_ret
        have he := HE.out
        simp only [List.append_nil] at he
        subst he
        have bb := bal wr (.cells #[.int .i64 g, .int .i64 i] 40)
        obtain ⟨a, c, rfl, hs⟩ := Sl.of_row (own_past HO.out bb)
        exact ⟨⟨a, c, rfl, hs⟩, hB.trans (bb.mono hsz)⟩
      | some v =>
        have hv : v < 2 ^ 64 := by have := rd_lt (hosts := h16) MM.out.bd g i; rw [ho] at this; exact this
        dsimp only at hrest
        obtain ⟨e, he⟩ : ∃ e, pte v = e := ⟨_, rfl⟩
        rw [he] at hrest
        have hpg := fun W => refget_any W v e he hv
        simp only [Option.getD_some, Option.isSome_some] at hgt
        have HGt := Lib.hid hgt
        have HPg := Lib.hid hpg
        have HE := Lib.hid hrest
        clear hrest hgt hpg ho hl hv he
        have hnew := heap_alloc_new (wr.alloc (.cells #[.int .i64 g, .int .i64 i] 40)) (.cells #[.int .i64 g, .int .i64 i] 40)
        rw [show (wr.alloc (.cells #[.int .i64 g, .int .i64 i] 40)).heap.size = wr.heap.size + 1 by simp] at hnew
        have HNw := Lib.hid (World.news_of_block (cs := #[.int .i64 g, .int .i64 i]) (t := 40) (fr := (0, 0)) hnew)
        have hdn : done.length ≤ 2 := by have := HD.out; omega
        clear hnew
        obtain ⟨ep, ew, eu, ea, ed, eps, enx, ebad, ef⟩ := e
        dsimp only at HPg
        cases ep with
        | false =>
          go_wp2_with (first
            | (go_at_call 18; (with_reducible refine (HI.out _).mono ?_); rintro e W1 ⟨rfl, rfl⟩)
            | (go_at_call 16; (with_reducible refine (HGt.out _ ((MM.out.past hB).past (bal _ _))).mono ?_); rintro e W2 ⟨rfl, rfl⟩)
            | (at_builtin; refine wpList_append_own _ rfl _ _ 27 rfl w.heap.size 40 i0 _ 2 16 Tryd.underlying27 H1.out HZ0.out HZ1.out HZ2.out rfl (by decide) _ _ _ rfl ((HO.out.alloc _).alloc _) ⟨wr.heap.size + 1, 0, none⟩ 1 1 [.int .i64 g, .int .i64 i] rfl rfl HNw.out (by simp [Value.oneCell']) (by unfold maxLen; omega) (by omega) (by simp; omega) ?_; intro v' w3 hown' hgrow3 hnil3; have HO3 := Lib.hid hown'; have HG3 := Lib.hid hgrow3; clear hown' hgrow3 hnil3)
            | (go_at_call 17; (with_reducible refine (HPg.out _).mono ?_); rintro e W4 ⟨rfl, b4⟩; have B3 := ((hB.alloc hsz (.cells #[.int .i64 g, .int .i64 i] 40)).alloc (by simp; omega) (.cells #[.int .i64 g, .int .i64 i] 40)).grown HG3.out (by simp; omega) (fun r e => (((HO.out.alloc (.cells #[.int .i64 g, .int .i64 i] 40)).alloc (.cells #[.int .i64 g, .int .i64 i] 40)).lt r e).1); have B4 := B3.trans (b4.mono B3.size)))
          go_ret
          have he := HE.out
          simp [goneE] at he
          subst he
          obtain ⟨a, c, rfl, hs⟩ := Sl.of_row (row_snoc (own_past (own_past HO3.out b4) (bal W4 (.cells #[.bool false, .bool ew, .bool eu, .bool ea, .bool ed, .bool eps, .bool enx, .bool ebad, .int .i64 (ef : Int)] 42))))
          exact ⟨⟨a, c, by simp, hs⟩, B4.alloc B4.size _⟩
        | true =>
          cases eps with
          | true =>
            go_wp2_with (first
              | (go_at_call 18; (with_reducible refine (HI.out _).mono ?_); rintro e W1 ⟨rfl, rfl⟩)
              | (go_at_call 16; (with_reducible refine (HGt.out _ ((MM.out.past hB).past (bal _ _))).mono ?_); rintro e W2 ⟨rfl, rfl⟩)
              | (at_builtin; refine wpList_append_own _ rfl _ _ 27 rfl w.heap.size 40 i0 _ 2 16 Tryd.underlying27 H1.out HZ0.out HZ1.out HZ2.out rfl (by decide) _ _ _ rfl ((HO.out.alloc _).alloc _) ⟨wr.heap.size + 1, 0, none⟩ 1 1 [.int .i64 g, .int .i64 i] rfl rfl HNw.out (by simp [Value.oneCell']) (by unfold maxLen; omega) (by omega) (by simp; omega) ?_; intro v' w3 hown' hgrow3 hnil3; have HO3 := Lib.hid hown'; have HG3 := Lib.hid hgrow3; clear hown' hgrow3 hnil3)
              | (go_at_call 17; (with_reducible refine (HPg.out _).mono ?_); rintro e W4 ⟨rfl, b4⟩; have B3 := ((hB.alloc hsz (.cells #[.int .i64 g, .int .i64 i] 40)).alloc (by simp; omega) (.cells #[.int .i64 g, .int .i64 i] 40)).grown HG3.out (by simp; omega) (fun r e => (((HO.out.alloc (.cells #[.int .i64 g, .int .i64 i] 40)).alloc (.cells #[.int .i64 g, .int .i64 i] 40)).lt r e).1); have B4 := B3.trans (b4.mono B3.size)))
            go_ret
            have he := HE.out
            simp [goneE] at he
            subst he
            obtain ⟨a, c, rfl, hs⟩ := Sl.of_row (row_snoc (own_past (own_past HO3.out b4) (bal W4 (.cells #[.bool true, .bool ew, .bool eu, .bool ea, .bool ed, .bool true, .bool enx, .bool ebad, .int .i64 (ef : Int)] 42))))
            exact ⟨⟨a, c, by simp, hs⟩, B4.alloc B4.size _⟩
          | false =>
            cases ebad with
            | true =>
              go_wp2_with (first
                | (go_at_call 18; (with_reducible refine (HI.out _).mono ?_); rintro e W1 ⟨rfl, rfl⟩)
                | (go_at_call 16; (with_reducible refine (HGt.out _ ((MM.out.past hB).past (bal _ _))).mono ?_); rintro e W2 ⟨rfl, rfl⟩)
                | (at_builtin; refine wpList_append_own _ rfl _ _ 27 rfl w.heap.size 40 i0 _ 2 16 Tryd.underlying27 H1.out HZ0.out HZ1.out HZ2.out rfl (by decide) _ _ _ rfl ((HO.out.alloc _).alloc _) ⟨wr.heap.size + 1, 0, none⟩ 1 1 [.int .i64 g, .int .i64 i] rfl rfl HNw.out (by simp [Value.oneCell']) (by unfold maxLen; omega) (by omega) (by simp; omega) ?_; intro v' w3 hown' hgrow3 hnil3; have HO3 := Lib.hid hown'; have HG3 := Lib.hid hgrow3; clear hown' hgrow3 hnil3)
                | (go_at_call 17; (with_reducible refine (HPg.out _).mono ?_); rintro e W4 ⟨rfl, b4⟩; have B3 := ((hB.alloc hsz (.cells #[.int .i64 g, .int .i64 i] 40)).alloc (by simp; omega) (.cells #[.int .i64 g, .int .i64 i] 40)).grown HG3.out (by simp; omega) (fun r e => (((HO.out.alloc (.cells #[.int .i64 g, .int .i64 i] 40)).alloc (.cells #[.int .i64 g, .int .i64 i] 40)).lt r e).1); have B4 := B3.trans (b4.mono B3.size)))
              go_ret
              have he := HE.out
              simp [goneE] at he
              subst he
              obtain ⟨a, c, rfl, hs⟩ := Sl.of_row (row_snoc (own_past (own_past HO3.out b4) (bal W4 (.cells #[.bool true, .bool ew, .bool eu, .bool ea, .bool ed, .bool false, .bool enx, .bool true, .int .i64 (ef : Int)] 42))))
              exact ⟨⟨a, c, by simp, hs⟩, B4.alloc B4.size _⟩
            | false =>
              go_wp2_with (first
                | (go_at_call 18; (with_reducible refine (HI.out _).mono ?_); rintro e W1 ⟨rfl, rfl⟩)
                | (go_at_call 16; (with_reducible refine (HGt.out _ ((MM.out.past hB).past (bal _ _))).mono ?_); rintro e W2 ⟨rfl, rfl⟩)
                | (at_builtin; refine wpList_append_own _ rfl _ _ 27 rfl w.heap.size 40 i0 _ 2 16 Tryd.underlying27 H1.out HZ0.out HZ1.out HZ2.out rfl (by decide) _ _ _ rfl ((HO.out.alloc _).alloc _) ⟨wr.heap.size + 1, 0, none⟩ 1 1 [.int .i64 g, .int .i64 i] rfl rfl HNw.out (by simp [Value.oneCell']) (by unfold maxLen; omega) (by omega) (by simp; omega) ?_; intro v' w3 hown' hgrow3 hnil3; have HO3 := Lib.hid hown'; have HG3 := Lib.hid hgrow3; clear hown' hgrow3 hnil3)
                | (go_at_call 17; (with_reducible refine (HPg.out _).mono ?_); rintro e W4 ⟨rfl, b4⟩; have B3 := ((hB.alloc hsz (.cells #[.int .i64 g, .int .i64 i] 40)).alloc (by simp; omega) (.cells #[.int .i64 g, .int .i64 i] 40)).grown HG3.out (by simp; omega) (fun r e => (((HO.out.alloc (.cells #[.int .i64 g, .int .i64 i] 40)).alloc (.cells #[.int .i64 g, .int .i64 i] 40)).lt r e).1); have B4 := B3.trans (b4.mono B3.size)))
              go_roundw
              case rel =>
                have he := HE.out
                simp [goneE] at he
                have hz := HLn.out
                have hd := HD.out
                exact ⟨n, ef, done ++ [(g, i)], by omega, by rw [HWp.out], rfl, by simp; omega, row_snoc (own_past (own_past HO3.out b4) (bal W4 (.cells #[.bool true, .bool ew, .bool eu, .bool ea, .bool ed, .bool false, .bool enx, .bool false, .int .i64 (ef : Int)] 42))), by simpa using he, B4.alloc B4.size _⟩
              case measure => have hz := HLn.out; simp [intOf, HWp.out]; omega
end Go.Proofs.YtlldbfpccdmclaaDoor
