/- As XLast, where the last operation waits for others through others: what is listed is closed under what each waits for. -/
import Derived.Test.YtglohconhbcchaaGreatDoorLast
namespace Go.Proofs.YtglohconhbcchaaGreatDoor
open Go.RowKit

section
variable {P : Program} {ops : Array Oper} {Q : Exit → Act → World → Prop} {S : World → Prop}
def behind (ops : Array Oper) : Nat → Nat → Nat → Bool
  | 0, _, _ => false
  | fuel + 1, L, i => match ops[L]? with | some o => o.after.any fun e => Region.binds .any e && (e.on == i || behind ops fuel e.on i) | none => false
def Closed (ops : Array Oper) (listed : Array Bool) : Prop := ∀ (j : Nat) (o : Oper), ops[j]? = some o → listed.getD j false = true → ∀ e ∈ o.after, Region.binds .any e = true → listed.getD e.on false = true
def closedB (ops : Array Oper) (listed : Array Bool) : Bool := (List.range ops.size).all fun j => !listed.getD j false || ((ops[j]?).map (·.after.all fun e => !Region.binds .any e || listed.getD e.on false)).getD true
theorem closed_of {listed : Array Bool} (h : closedB ops listed = true) : Closed ops listed := fun j o ho hj e he hb => by
  have hlt : j < ops.size := (Array.getElem?_eq_some_iff.1 ho).1
  have h1 := List.all_eq_true.1 h j (List.mem_range.2 hlt)
  rw [hj, ho] at h1
  simp only [Bool.not_true, Bool.false_or, Option.map_some, Option.getD_some] at h1
  have h2 := Array.all_eq_true_iff_forall_mem.1 h1 e he
  rw [hb] at h2
  simpa using h2
theorem getD_set_true {listed : Array Bool} {j x : Nat} (h : listed.getD x false = true) : (listed.setIfInBounds j true).getD x false = true := by
  rcases Nat.lt_or_ge x listed.size with hx | hx
  · simp only [Array.getD_eq_getD_getElem?, Array.getElem?_setIfInBounds] at h ⊢
    split
    · simp_all
    · exact h
  · simp [Array.getElem?_eq_none hx] at h
theorem Closed.set {listed : Array Bool} {j : Nat} (h : Closed ops listed) (hj : j ∈ Region.ready .any ops listed) : Closed ops (listed.setIfInBounds j true) := fun k o ho hk e he hb => by
  refine getD_set_true ?_
  by_cases e' : k = j
  · subst e'
    obtain ⟨_, o', ho', hall⟩ := mem_ready.1 hj
    rw [ho] at ho'
    cases ho'
    exact hall e he hb
  · rw [getD_set_ne false (fun e => e' e.symm)] at hk
    exact h k o ho hk e he hb
theorem behind_listed {listed : Array Bool} (h : Closed ops listed) : ∀ (fuel L i : Nat), behind ops fuel L i = true → listed.getD L false = true → listed.getD i false = true
  | 0, _, _, hb, _ => by cases hb
  | fuel + 1, L, i, hb, hL => by
    unfold behind at hb
    cases ho : ops[L]? with
    | none => rw [ho] at hb; cases hb
    | some o =>
      rw [ho] at hb
      obtain ⟨e, he, hx⟩ := Array.any_eq_true'.1 hb
      simp only [Bool.and_eq_true, Bool.or_eq_true, beq_iff_eq] at hx
      have h1 := h L o ho hL e he hx.1
      rcases hx.2 with e1 | e1
      · rw [← e1]; exact h1
      · exact behind_listed h fuel e.on i e1 h1
theorem not_ready' {L i fuel : Nat} (hw : behind ops fuel L i = true) {listed : Array Bool} (hc : Closed ops listed) (hi : i ∈ Region.ready .any ops listed) : ¬ L ∈ Region.ready .any ops listed := fun hL => by
  obtain ⟨_, o, ho, hall⟩ := mem_ready.1 hL
  have h0 := (mem_ready.1 hi).1
  have key : listed.getD i false = true := by
    cases fuel with
    | zero => cases hw
    | succ fuel =>
      unfold behind at hw
      rw [ho] at hw
      obtain ⟨e, he, hx⟩ := Array.any_eq_true'.1 hw
      simp only [Bool.and_eq_true, Bool.or_eq_true, beq_iff_eq] at hx
      have h1 := hall e he hx.1
      rcases hx.2 with e1 | e1
      · rw [← e1]; exact h1
      · exact behind_listed hc fuel e.on i e1 h1
  rcases Nat.lt_or_ge i listed.size with h' | h'
  · simp [h'] at h0 key; rw [h0] at key; cases key
  · simp [Array.getElem?_eq_none h'] at key
theorem wpAnyL_firstT {L i bf : Nat} {oi : Oper} {v : Value} (hi : ops[i]? = some oi) (hw : behind ops bf L i = true) (hsel : ∀ (j : Nat) (o : Oper) cs b, ops[j]? = some o → o.op ≠ .select cs b)
    (hQ : ∀ c a w, Q (.panic c) (a.put oi.dst v) w → Q (.panic c) a w) :
    ∀ (fuel : Nat) (listed : Array Bool) (a : Act) (w : World), Closed ops listed →
      (∀ j oj, ops[j]? = some oj → j ≠ i → listed.getD j true = false → (∀ e ∈ oj.after, Region.binds .any e = true → e.on ≠ i) → oi.apart ops oj = true) →
      i ∈ Region.ready .any ops listed → YieldsIf P ops S oi v a → S w →
      wpAnyL P ops Q S L fuel (listed.setIfInBounds i true) (a.put oi.dst v) w → wpAnyL P ops Q S L (fuel + 1) listed a w := by
  intro fuel
  induction fuel with
  | zero =>
    intro listed a w _ _ hr hy hS H
    refine ⟨fun h => (by rw [h] at hr; cases hr), fun j hj => ?_⟩
    by_cases hji : j = i
    · subst hji; exact hy.wpOp hi hS ⟨fun _ => hS, H⟩
    · have := ready_mono hj hji
      rw [H.1] at this
      cases this
  | succ fuel ih =>
    intro listed a w hcl hfree hr hy hS H
    refine ⟨fun h => (by rw [h] at hr; cases hr), fun j hj => ?_⟩
    by_cases hji : j = i
    · subst hji; exact hy.wpOp hi hS ⟨fun _ => hS, H⟩
    · have hjL : j ≠ L := fun e => not_ready' hw hcl hr (e ▸ hj)
      have h1 := H.2 j (ready_mono hj hji)
      have hcl' := hcl.set hj
      obtain ⟨hjun, oj, hoj, hall⟩ := mem_ready.1 hj
      have hnot : ∀ e ∈ oj.after, Region.binds .any e = true → e.on ≠ i := fun e he hb heq => by
        have h1 := hall e he hb
        have h0 := (mem_ready.1 hr).1
        rw [heq] at h1
        rcases Nat.lt_or_ge i listed.size with h' | h'
        · simp [h'] at h0 h1; rw [h0] at h1; cases h1
        · simp [Array.getElem?_eq_none h'] at h1
      have h2 := wpOp_putIf hoj (hfree j oj hoj hji hjun hnot) (fun cs b => hsel i oi cs b hi) (fun cs b => hsel j oj cs b hoj) hQ hy h1
      have hfree' : ∀ k ok, ops[k]? = some ok → k ≠ i → (listed.setIfInBounds j true).getD k true = false →
          (∀ e ∈ ok.after, Region.binds .any e = true → e.on ≠ i) → oi.apart ops ok = true := fun k ok hk hki hun hno => by
        refine hfree k ok hk hki ?_ hno
        by_cases hjk : j = k
        · subst hjk; exact hjun
        · rw [getD_set_ne true hjk] at hun; exact hun
      refine wpOp_mono (fun a' w' h3 => ⟨fun _ => h3.2.1 hjL, ih (listed.setIfInBounds j true) a' w' hcl' hfree' (ready_mono hr (Ne.symm hji)) h3.1 (h3.2.1 hjL) ?_⟩) h2
      rw [Array.setIfInBounds_comm _ _ hji]
      exact h3.2.2
/-- take number i first -/
theorem wpAnyT_take {L i : Nat} {oi : Oper} {v : Value} {fuel : Nat} {listed : Array Bool} {a : Act} {w : World} (hi : ops[i]? = some oi) (hw : behind ops ops.size L i = true) (hcl : closedB ops listed = true)
    (hs : Region.noSelect ops = true) (hf : Region.free .any ops listed i = true) (hr : (Region.ready .any ops listed).contains i = true)
    (hQ : ∀ c a w, Q (.panic c) (a.put oi.dst v) w → Q (.panic c) a w) (hy : YieldsIf P ops S oi v a) (hS : S w)
    (h : wpAnyL P ops Q S L fuel (listed.setIfInBounds i true) (a.put oi.dst v) w) : wpAnyL P ops Q S L (fuel + 1) listed a w :=
  wpAnyL_firstT hi hw (Region.noSelect_spec hs) hQ fuel listed a w (closed_of hcl) (Region.free_spec hi hf) (by simpa using hr) hy hS h
end
end Go.Proofs.YtglohconhbcchaaGreatDoor
