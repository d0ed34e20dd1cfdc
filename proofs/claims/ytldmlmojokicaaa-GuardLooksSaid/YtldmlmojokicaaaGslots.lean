/- Slices of slots: a snapshot of all slots of all pages. -/
import Derived.Test.YtldmlmojokicaaaGlaw
import Derived.Test.YtldmlmojokicaaaGuP
namespace Go.Proofs.Ytldmlmojokicaaa
open Go.RowKit Go.Shelf Go.Maps

theorem info_slot : (Try.prog.info? 62).map (fun i => (i.zero, i.size, i.bytes)) = some (some (.agg #[.int .i64 0, .int .i64 0, .bool false, .bool false, .bool false]), 5, 24) := by kernel_rfl
def slotsOf (ps : List Pg) : List Slt := ps.flatMap Pg.s
theorem slots_len {ps : List Pg} (h : ∀ p, p ∈ ps → p.s.length = 8) : (slotsOf ps).length = 8 * ps.length := by
  induction ps with
  | nil => rfl
  | cons a r ih =>
    have h1 := h a (List.mem_cons_self ..)
    have h2 := ih fun p hp => h p (List.mem_cons_of_mem _ hp)
    unfold slotsOf at h2 ⊢
    rw [List.flatMap_cons, List.length_append, h1, h2, List.length_cons]; omega
theorem slots_get {ps : List Pg} (h : ∀ p, p ∈ ps → p.s.length = 8) (m q : Nat) (hm : m < ps.length) (hq : q < 8) : (slotsOf ps)[8 * m + q]? = some ((ps.getD m pg0).s.getD q slt0) := by
  induction ps generalizing m with
  | nil => simp at hm
  | cons a r ih =>
    have h1 := h a (List.mem_cons_self ..)
    unfold slotsOf at ih ⊢
    rw [List.flatMap_cons]
    cases m with
    | zero =>
      rw [List.getElem?_append_left (by omega), Nat.mul_zero, Nat.zero_add, List.getElem?_eq_getElem (by omega)]
      simp [List.getD, List.getElem?_eq_getElem (show q < a.s.length by omega)]
    | succ m =>
      rw [List.getElem?_append_right (by omega), show 8 * (m + 1) + q - a.s.length = 8 * m + q by omega, ih (fun p hp => h p (List.mem_cons_of_mem _ hp)) m (by simpa using hm)]
      simp [List.getD]
theorem slots_take {ps : List Pg} (h : ∀ p, p ∈ ps → p.s.length = 8) (m q : Nat) (hm : m < ps.length) (hq : q < 8) : (slotsOf ps).take (8 * m + q + 1) = (slotsOf ps).take (8 * m + q) ++ [(ps.getD m pg0).s.getD q slt0] := by
  rw [List.take_add_one, slots_get h m q hm hq]; rfl
/-- a slice of slots that is owned, or nil -/
def SR (B : Nat) (w : World) (v : Value) (l : List Slt) : Prop := w.ownsRow B 62 5 v l.length (l.flatMap slC)
theorem SR.nil (B : Nat) (w : World) : SR B w (.slice none 0 0) [] := World.ownsRow_nil _ _ _ _
theorem SR.past {B : Nat} {w w' : World} {v : Value} {l : List Slt} (h : SR B w v l) (hb : Below w.heap.size w w') : SR B w' v l := World.ownsRow.kept h (grownBy_of_below hb) (by cases v.ownBlock <;> simp)
theorem SR.lo {B : Nat} {w : World} {v : Value} {l : List Slt} (h : SR B w v l) : ∀ b, v.ownBlock = some b → B ≤ b := by
  rcases h with ⟨_, ⟨rfl, _⟩ | ⟨g, cap, cur, rfl, h2, _⟩⟩
  · intro b hb; simp [Value.ownBlock] at hb
  · intro b hb; simp [Value.ownBlock] at hb; omega
theorem SR.view {B : Nat} {w : World} {v : Value} {l : List Slt} (h : SR B w v l) : (v = .slice none 0 0 ∧ l = []) ∨ ∃ g cap rest, v = .slice (some ⟨g, 0, none⟩) l.length cap ∧ Blk w g 62 (l.flatMap slC ++ rest) ∧ l.length ≤ cap ∧ cap ≤ maxLen ∧ l.length * 5 + rest.length = cap * 5 := by
  rcases h.2 with ⟨e1, e2⟩ | ⟨g, cap, cur, rfl, _, h3, h4, h5, h6, h7⟩
  · exact .inl ⟨e1, List.length_eq_zero_iff.1 e2⟩
  · refine .inr ⟨g, cap, cur.toList.drop (l.length * 5), rfl, ?_, h4, h5, ?_⟩
    · unfold Blk
      rw [h3, ← h7, List.take_append_drop]
    · have : cur.toList.length = cap * 5 := by simpa using h6
      rw [List.length_drop, this]
      have := Nat.mul_le_mul_right 5 h4
      omega
theorem SR.mk' {w : World} {l : List Slt} {g cap : Nat} {rest : List Value} (hb : Blk w g 62 (l.flatMap slC ++ rest)) (h1 : l.length ≤ cap) (h2 : cap ≤ maxLen) (h3 : l.length * 5 + rest.length = cap * 5) : SR 0 w (.slice (some ⟨g, 0, none⟩) l.length cap) l := by
  have hl := slC_len l
  unfold SR
  obtain ⟨cs, hcs⟩ : ∃ c, l.flatMap slC = c := ⟨_, rfl⟩
  rw [hcs] at hb hl ⊢
  refine ⟨hl, .inr ⟨g, cap, (cs ++ rest).toArray, rfl, Nat.zero_le _, hb, h1, h2, ?_, ?_⟩⟩
  · simp; omega
  · simp [← hl]
theorem SR.base0 {B : Nat} {w : World} {v : Value} {l : List Slt} (h : SR B w v l) : SR 0 w v l := ownsRow_base0 h
theorem SR.keep {w w' : World} {v : Value} {l : List Slt} (h : SR 0 w v l) (hk : ∀ b, v.ownBlock = some b → w'.heap[b]? = w.heap[b]?) : SR 0 w' v l := by
  rcases h.view with ⟨rfl, rfl⟩ | ⟨g, cap, rest, rfl, hb, h1, h2, h3⟩
  · exact SR.nil _ _
  · exact SR.mk' (hb.of_heap (hk g rfl)) h1 h2 h3
theorem SR.lt' {w : World} {v : Value} {l : List Slt} (h : SR 0 w v l) : ∀ b, v.ownBlock = some b → b < w.heap.size := by
  rcases h.view with ⟨rfl, rfl⟩ | ⟨g, cap, rest, rfl, hb, h1, h2, h3⟩
  · intro b hb; simp [Value.ownBlock] at hb
  · intro b hb'; simp [Value.ownBlock] at hb'; subst hb'; exact hb.lt
/-- a slice of slots, as a thing -/
def srow (v : Value) (l : List Slt) : Thing where
  own k := v.ownBlock = some k
  so w := SR 0 w v l
  lt _ h k hk := h.lt' k hk
  keep _ _ h _ hk := h.keep hk
theorem SR.at {w : World} {v : Value} {l : List Slt} (h : SR 0 w v l) (k : Nat) (hk : k < l.length) : ∃ b c, v = .slice (some ⟨b, 0, none⟩) l.length c ∧ b < w.heap.size ∧
    w.cell? ⟨b, k * 5, none⟩ = some (.int .i64 (l.getD k slt0).kind) ∧ w.cell? ⟨b, k * 5 + 1, none⟩ = some (.int .i64 (l.getD k slt0).dst) ∧ w.cell? ⟨b, k * 5 + 2, none⟩ = some (.bool (l.getD k slt0).r.w) ∧ w.cell? ⟨b, k * 5 + 3, none⟩ = some (.bool (l.getD k slt0).r.u) ∧ w.cell? ⟨b, k * 5 + 4, none⟩ = some (.bool (l.getD k slt0).r.x) := by
  rcases h.view with ⟨rfl, rfl⟩ | ⟨g, cap, rest, rfl, hb, _, _, _⟩
  · simp at hk
  · have key : ∀ j, j < 5 → w.cell? ⟨g, k * 5 + j, none⟩ = (slC (l.getD k slt0))[j]? := fun j hj => by
      have hlt : k * 5 + j < (l.flatMap slC).length := by rw [slC_len]; omega
      have := hb.cell (k := k * 5 + j) (v := (l.flatMap slC)[k * 5 + j]) (by rw [List.getElem?_append_left hlt, List.getElem?_eq_getElem hlt])
      rw [this, ← slC_get l k j hk hj, List.getElem?_eq_getElem hlt]
    exact ⟨g, cap, rfl, hb.lt, key 0 (by decide), key 1 (by decide), key 2 (by decide), key 3 (by decide), key 4 (by decide)⟩
theorem row_at {w : World} {bb n c : Nat} {L : List Int} {g : Int} (h : RowI w (.slice (some ⟨bb, 0, none⟩) n c) L) (hn : L.length = n) (m : Nat) (hm : m < n) (hg : L.getD m 0 = g) : w.cell? ⟨bb, m, none⟩ = some (.int .i64 g) := by
  obtain ⟨b, c', e, _, d⟩ := RowI.at h m (by rw [hn]; exact hm)
  injection e with e1 e2 e3
  injection e1 with e1
  injection e1 with e1
  subst e1
  rw [← hg]; exact d
theorem SR.form {B : Nat} {w : World} {v : Value} {l : List Slt} (h : SR B w v l) : ∃ a c, v = .slice a l.length c := by
  rcases h.view with ⟨rfl, rfl⟩ | ⟨g, cap, rest, rfl, _⟩
  · exact ⟨_, _, rfl⟩
  · exact ⟨_, _, rfl⟩
theorem HG.wd3 {w0 w : World} {A : GAd} {P : Pm} {V : GVl} {G : GS} {ts : List Thing} {wb : Nat} {s t : Thing} (H : HG w0 w A P V G (s :: t :: wld wb A :: ts)) : Blk w wb 34 (wldC A) := Hold.at H 7 rfl
set_option maxRecDepth 100000 in
theorem slot_neq (w : World) (xk xd : Int) (xw xu xx : Bool) : (binOp .neq 62 (.agg #[.int .i64 xk, .int .i64 xd, .bool xw, .bool xu, .bool xx]) (.agg #[.int .i64 xk, .int .i64 xd, .bool xw, .bool xu, .bool xx])).run Try.prog w = .ok (.bool false) w := by
  have u1 := Try.underlying62
  have u2 := Try.underlying39
  have u3 := Try.underlying3
  have u4 := Try.underlying4
  have hp1 : Try.prog.stoodInHeld 62 = false := by kernel_rfl
  have hp2 : Try.prog.stoodInHeld 39 = false := by kernel_rfl
  have hg1 : Try.prog.eqGuardType Try.prog.depth 62 = false := by kernel_rfl
  go_simp
end Go.Proofs.Ytldmlmojokicaaa
