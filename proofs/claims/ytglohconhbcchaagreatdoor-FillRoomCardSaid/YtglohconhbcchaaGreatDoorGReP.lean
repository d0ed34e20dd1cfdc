/- The plain law of GuardReach: what is passed, and in which order. No program stands here. -/
import Derived.Test.YtglohconhbcchaaGreatDoorGuP
namespace Go.Proofs.YtglohconhbcchaaGreatDoor

theorem mem_span {x : Int} {a n : Nat} : x ∈ span a n ↔ ∃ j, j < n ∧ x = ((a + j : Nat) : Int) := by
  unfold span
  simp only [List.mem_map, List.mem_range]
  exact ⟨fun ⟨j, h, e⟩ => ⟨j, h, e.symm⟩, fun ⟨j, h, e⟩ => ⟨j, h, e.symm⟩⟩
theorem span_sorted (a n : Nat) : (span a n).Pairwise (· < ·) := by
  unfold span
  refine List.pairwise_map.2 (List.Pairwise.imp (fun {i j} (h : i < j) => ?_) List.pairwise_lt_range)
  omega
theorem mem_kids {ps : List Pg} {p : Int} {c : Int × Int} : c ∈ kids ps p ↔ ∃ i : Nat, i < 8 ∧ ((sslot ps p (i : Int)).getD slt0).kind = 1 ∧ c = ((i : Int), ((sslot ps p (i : Int)).getD slt0).dst) := by
  unfold kids
  simp only [List.mem_filterMap, List.mem_range]
  constructor
  · rintro ⟨i, hi, h⟩
    split at h
    · rename_i hk
      exact ⟨i, hi, hk, (Option.some.inj h).symm⟩
    · simp at h
  · rintro ⟨i, hi, hk, rfl⟩
    exact ⟨i, hi, by rw [if_pos hk]⟩
theorem kids_sorted (ps : List Pg) (p : Int) : (kids ps p).Pairwise fun a b => a.1.toNat < b.1.toNat := by
  unfold kids
  refine List.Pairwise.filterMap _ (fun a a' h b hb b' hb' => ?_) List.pairwise_lt_range
  simp only at hb hb'
  split at hb
  · split at hb'
    · simp only [Option.some.injEq] at hb hb'
      rw [← hb, ← hb']
      simpa using h
    · simp at hb'
  · simp at hb
theorem flat_sorted {l : List (Int × Int)} (hl : l.Pairwise fun a b => a.1.toNat < b.1.toNat) (g : Int × Int → List Int) (c W : Nat) (hg : ∀ a, a ∈ l → (g a).Pairwise (· < ·) ∧ ∀ x, x ∈ g a → ((c + a.1.toNat * W : Nat) : Int) ≤ x ∧ x < ((c + a.1.toNat * W + W : Nat) : Int)) :
    (l.flatMap g).Pairwise (· < ·) := by
  refine List.pairwise_flatMap.2 ⟨fun a ha => (hg a ha).1, List.Pairwise.imp_of_mem (fun {a b} ha hb hab x hx y hy => ?_) hl⟩
  have h1 := ((hg a ha).2 x hx).2
  have h2 := ((hg b hb).2 y hy).1
  have : a.1.toNat * W + W ≤ b.1.toNat * W := by
    have := Nat.mul_le_mul_right W (show a.1.toNat + 1 ≤ b.1.toNat from hab)
    rw [Nat.add_mul] at this; omega
  omega
/-- a child's page is of the next lower level -/
theorem kid_lv {ps : List Pg} (hk : ∀ f i x, sslot ps f i = some x → SlotOk ps (lvOf ps f) x) {f : Int} {c : Int × Int} (hc : c ∈ kids ps f) : lvOf ps c.2 = lvOf ps f - 1 := by
  obtain ⟨i, _, h1, rfl⟩ := mem_kids.1 hc
  cases hs : sslot ps f (i : Int) with
  | none => rw [hs] at h1; simp [slt0] at h1
  | some x =>
    rw [hs] at h1
    simp only [Option.getD_some] at h1 ⊢
    rcases hk f i x hs with e | ⟨_, k, e1, e2⟩ | ⟨e, _⟩
    · rw [e] at h1; simp [slt0] at h1
    · unfold lvOf at e2 ⊢
      rw [e1]; exact e2
    · rw [e] at h1; simp at h1
theorem reachL_in (p : Int) (i a : Nat) (hi : i < 8) (b : Int × Int) : (reachL p i a b).Pairwise (· < ·) ∧ ∀ x, x ∈ reachL p i a b → ((a * 64 + b.1.toNat * 8 : Nat) : Int) ≤ x ∧ x < ((a * 64 + b.1.toNat * 8 + 8 : Nat) : Int) := by
  unfold reachL
  split
  · refine ⟨span_sorted _ _, fun x hx => ?_⟩
    obtain ⟨j, hj, rfl⟩ := mem_span.1 hx
    omega
  · exact ⟨List.Pairwise.nil, fun x hx => by simp at hx⟩
theorem flatL_in (ps : List Pg) (p f : Int) (i a : Nat) (hi : i < 8) : ((kids ps f).flatMap (reachL p i a)).Pairwise (· < ·) ∧ ∀ x, x ∈ (kids ps f).flatMap (reachL p i a) → ((a * 64 : Nat) : Int) ≤ x ∧ x < ((a * 64 + 64 : Nat) : Int) := by
  refine ⟨flat_sorted (kids_sorted ps f) _ (a * 64) 8 fun b _ => reachL_in p i a hi b, fun x hx => ?_⟩
  obtain ⟨b, hb, hx⟩ := List.mem_flatMap.1 hx
  obtain ⟨j, hj, _, rfl⟩ := mem_kids.1 hb
  have := (reachL_in p i a hi _).2 x hx
  simp only [Int.toNat_natCast] at this
  omega
/-- the numbers stand in order -/
theorem greach_sorted {P : Pm} {G : GS} (h : GInv P G) (root p : Int) (i : Nat) (hi : i < 8) : (greach G.s.ps root p (i : Int)).Pairwise (· < ·) := by
  have hk := h.k.sk
  unfold greach
  cases hf : sfind G.s.ps ⟨root, 3, 0⟩ with
  | none => exact List.Pairwise.nil
  | some top =>
    simp only
    rw [if_pos (by omega)]
    by_cases hp : p = top
    · subst hp
      have e : (kids G.s.ps p).flatMap (reachM G.s.ps p (i : Int).toNat) = [] := by
        refine List.flatMap_eq_nil_iff.2 fun a ha => ?_
        have l1 := kid_lv hk ha
        unfold reachM
        rw [if_neg (fun e => by rw [e] at l1; omega), List.nil_append]
        refine List.flatMap_eq_nil_iff.2 fun b hb => ?_
        have l2 := kid_lv hk hb
        unfold reachL
        rw [if_neg (fun e => by rw [e] at l2; omega)]
      rw [e, List.append_nil, if_pos rfl]
      exact span_sorted _ _
    · rw [if_neg hp, List.nil_append]
      refine flat_sorted (kids_sorted _ _) _ 0 64 fun a ha => ?_
      have hfl := flatL_in G.s.ps p a.2 (i : Int).toNat a.1.toNat (by omega)
      unfold reachM
      split
      · rename_i e
        have e2 : (kids G.s.ps a.2).flatMap (reachL p (i : Int).toNat a.1.toNat) = [] := by
          refine List.flatMap_eq_nil_iff.2 fun b hb => ?_
          have l2 := kid_lv hk hb
          unfold reachL
          rw [if_neg (fun e' => by rw [e', ← e] at l2; omega)]
        rw [e2, List.append_nil]
        refine ⟨span_sorted _ _, fun x hx => ?_⟩
        obtain ⟨j, hj, rfl⟩ := mem_span.1 hx
        omega
      · rw [List.nil_append]
        refine ⟨hfl.1, fun x hx => ?_⟩
        have := hfl.2 x hx
        omega
/-- the way of the host's machine from a page on -/
def rpass (ps : List Pg) (p k n : Int) : Nat → Int → Bool → Bool
  | 0, _, _ => false
  | lv + 1, f, is => is && ((decide (f = p) && decide (ix n ((lv + 1 : Nat) : Int) = k)) || rpass ps p k n lv ((sslot ps f (ix n ((lv + 1 : Nat) : Int))).getD slt0).dst (decide (((sslot ps f (ix n ((lv + 1 : Nat) : Int))).getD slt0).kind = 1)))
theorem greach_mem {ps : List Pg} (root p top : Int) (k n : Nat) (hk : k < 8) (hn : n < 512) (hf : sfind ps ⟨root, 3, 0⟩ = some top) : (greach ps root p (k : Int)).any (fun x => decide (x = (n : Int))) = rpass ps p (k : Int) (n : Int) 3 top true := by
  have i3 : ix (n : Int) 3 = ((n / 64 : Nat) : Int) := by have h : ix (n : Int) 3 = (n : Int) / 64 % 8 := rfl; rw [h]; omega
  have i2 : ix (n : Int) 2 = ((n / 8 % 8 : Nat) : Int) := by have h : ix (n : Int) 2 = (n : Int) / 8 % 8 := rfl; rw [h]; omega
  have i1 : ix (n : Int) 1 = ((n % 8 : Nat) : Int) := by have h : ix (n : Int) 1 = (n : Int) / 1 % 8 := rfl; rw [h]; omega
  rw [Bool.eq_iff_iff]
  unfold greach
  rw [hf]
  simp only
  rw [if_pos (by omega)]
  simp only [rpass, show ((2 + 1 : Nat) : Int) = 3 from rfl, show ((1 + 1 : Nat) : Int) = 2 from rfl, show ((0 + 1 : Nat) : Int) = 1 from rfl, i3, i2, i1, Bool.true_and, Bool.or_false, Bool.or_eq_true, Bool.and_eq_true, decide_eq_true_eq, List.any_eq_true, Int.toNat_natCast]
  constructor
  · rintro ⟨x, hx, rfl⟩
    rcases List.mem_append.1 hx with hx | hx
    · split at hx
      · rename_i e
        obtain ⟨j, hj, e2⟩ := mem_span.1 hx
        exact .inl ⟨e.symm, by omega⟩
      · simp at hx
    · obtain ⟨a, ha, hx⟩ := List.mem_flatMap.1 hx
      obtain ⟨j3, hj3, h3, rfl⟩ := mem_kids.1 ha
      unfold reachM at hx
      simp only [Int.toNat_natCast] at hx
      rcases List.mem_append.1 hx with hx | hx
      · split at hx
        · rename_i e
          obtain ⟨j, hj, e2⟩ := mem_span.1 hx
          obtain rfl : j3 = n / 64 := by omega
          exact .inr ⟨h3, .inl ⟨e, by omega⟩⟩
        · simp at hx
      · obtain ⟨b, hb, hx⟩ := List.mem_flatMap.1 hx
        obtain ⟨j2, hj2, h2, rfl⟩ := mem_kids.1 hb
        unfold reachL at hx
        simp only [Int.toNat_natCast] at hx
        split at hx
        · rename_i e
          obtain ⟨j, hj, e2⟩ := mem_span.1 hx
          obtain rfl : j3 = n / 64 := by omega
          obtain rfl : j2 = n / 8 % 8 := by omega
          exact .inr ⟨h3, .inr ⟨h2, e, by omega⟩⟩
        · simp at hx
  · rintro (⟨e, hk'⟩ | ⟨h3, ⟨e, hk'⟩ | ⟨h2, e, hk'⟩⟩)
    · refine ⟨(n : Int), List.mem_append_left _ ?_, rfl⟩
      rw [if_pos e.symm]
      exact mem_span.2 ⟨n - k * 64, by omega, by omega⟩
    · refine ⟨(n : Int), List.mem_append_right _ (List.mem_flatMap.2 ⟨_, mem_kids.2 ⟨n / 64, by omega, h3, rfl⟩, ?_⟩), rfl⟩
      unfold reachM
      refine List.mem_append_left _ ?_
      rw [if_pos e]
      simp only [Int.toNat_natCast]
      exact mem_span.2 ⟨n - (n / 64 * 8 + k) * 8, by omega, by omega⟩
    · refine ⟨(n : Int), List.mem_append_right _ (List.mem_flatMap.2 ⟨_, mem_kids.2 ⟨n / 64, by omega, h3, rfl⟩, ?_⟩), rfl⟩
      unfold reachM
      refine List.mem_append_right _ (List.mem_flatMap.2 ⟨_, mem_kids.2 ⟨n / 8 % 8, by omega, h2, rfl⟩, ?_⟩)
      unfold reachL
      rw [if_pos e]
      simp only [Int.toNat_natCast]
      exact mem_span.2 ⟨0, by omega, by omega⟩
theorem rpass_not (ps : List Pg) (p k n : Int) (lv : Nat) (f : Int) : rpass ps p k n lv f false = false := by cases lv <;> rfl
end Go.Proofs.YtglohconhbcchaaGreatDoor
