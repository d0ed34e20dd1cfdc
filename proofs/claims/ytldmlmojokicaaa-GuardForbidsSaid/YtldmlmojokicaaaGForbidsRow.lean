/- Proved: for every input the law GuardForbids answers true, and its arguments read behind the call as before. Conditions: none but the row's own. -/
import Derived.Test.YtldmlmojokicaaaGro
import Derived.Test.YtldmlmojokicaaaGForbids
namespace Go.Proofs.Ytldmlmojokicaaa
open Go.ChangeShapes Go.WideShapes Go.RowKit Go.Deep

section
variable {H : Type} {enc : TypeId × Value → H} {w : World} {base base' : Nat} {spare : Nat → Bool} {held : Bool}
set_option maxRecDepth 100000 in
theorem open_key {v : Value} {d : DataW H} {p : List MemPlace} (hv : Value.okWide Try.prog w .any base' 37 v) (h : DataW.Trod enc Try.prog w base spare held 37 v d p) :
    ∃ kg kv kr : Int, v = .agg #[.int .i64 kg, .int .i64 kv, .int .i64 kr] := by
  obtain ⟨cs, rfl, hsz⟩ := okWide_struct Try.underlying37 hv
  obtain ⟨fuel, hf⟩ := h
  have hc3 : Try.prog.cellsOf 37 = 3 := by kernel_rfl
  obtain ⟨cs', hcs'⟩ : ∃ l, cs.toList = l := ⟨_, rfl⟩
  have hcv : (Value.agg cs).cells.toList = cs' := hcs'
  rw [hcv] at hf
  obtain ⟨ys, n', hn', hy, hlen, hyl, hf'⟩ := DataW.trod_struct Try.underlying37 hf
  rw [hc3] at hlen
  have hcs2 : cs = cs'.toArray := by rw [← hcs']
  match cs', hlen, ys, hyl with
  | [c0, c1, c2], _, [y0, y1, y2], _ =>
    have g0 : DataW.trod enc Try.prog w base spare held n' 3 [c0] = some y0 := by simpa using field_at (by kernel_rfl) hf' 0 _ rfl
    have g1 : DataW.trod enc Try.prog w base spare held n' 3 [c1] = some y1 := by simpa using field_at (by kernel_rfl) hf' 1 _ rfl
    have g2 : DataW.trod enc Try.prog w base spare held n' 3 [c2] = some y2 := by simpa using field_at (by kernel_rfl) hf' 2 _ rfl
    obtain ⟨x0, e0, _, _⟩ := DataW.trod_int Try.underlying3 g0
    obtain ⟨x1, e1, _, _⟩ := DataW.trod_int Try.underlying3 g1
    obtain ⟨x2, e2, _, _⟩ := DataW.trod_int Try.underlying3 g2
    simp at e0 e1 e2
    subst e0 e1 e2
    exact ⟨x0, x1, x2, by rw [hcs2]⟩
end
set_option maxRecDepth 100000 in
set_option maxHeartbeats 1000000 in
theorem guardForbids_lifted (os : Os) (started : os.Started) (H : Type) (enc : TypeId × Value → H) :
    ReturnsInHanded {} Try.checked os 4 .any (Rows.guardForbidsSpec.pre6 enc Try.prog Try.f4 [] false)
      (Rows.guardForbidsSpec.post enc Try.prog Try.f4 false true false false) := by
  refine returnsInHanded_of_change (C := Try.checked) rowOwn started (by kernel_rfl) Try.func4
    (ChangeSpec.witness6 (enc := enc) (C := Try.checked) (os := os) false ⟨#[], #[.slice none 0 0, .slice none 0 0, .agg #[.int .i64 0, .int .i64 0, .int .i64 0]], []⟩ 8 (by kernel_rfl) (by kernel_rfl) (by kernel_rfl) (by kernel_rfl) (by kernel_rfl)) ?_
  intro W base args ds gs before hval0 hW _ _
  have hval : ∀ (j : Nat) t v, Try.f4.params[j]? = some t → args[j]? = some v → Value.okWide Try.prog W .any base t v := hval0
  have hW' := hW
  obtain ⟨p, q, hA0, hV, rfl, hfz, hnd⟩ := hW
  have hA : DataW.TrodAll enc Try.prog W 0 (fun _ => true) true Try.f4.params.toList args.toList ds p := hA0
  rw [Try.params4] at hA hval
  obtain ⟨v0, vs0, d0, ds0, p0, q0, hargs, rfl, rfl, h0, r0⟩ := trodAll_cons hA
  obtain ⟨v1, vs1, d1, ds1, p1, q1, rfl, rfl, rfl, h1, r1⟩ := trodAll_cons r0
  obtain ⟨v2, vs2, d2, ds2, p2, q2, rfl, rfl, rfl, h2, r2⟩ := trodAll_cons r1
  obtain ⟨rfl, rfl, rfl⟩ := trodAll_nil r2
  obtain rfl : args = #[v0, v1, v2] := by cases args; simp_all
  obtain ⟨rfl, rfl⟩ := trodVars_none hV
  have k0 := h0
  have lt0 : ∀ x ∈ p0, x.block < W.heap.size := by obtain ⟨m, hm⟩ := k0; exact DataW.trod_lt m _ _ _ hm
  obtain ⟨a0, c0, l0, rfl, hps0, hlen0⟩ := open_puts (hval 0 22 v0 rfl rfl) h0
  have k1 := h1
  have lt1 : ∀ x ∈ p1, x.block < W.heap.size := by obtain ⟨m, hm⟩ := k1; exact DataW.trod_lt m _ _ _ hm
  obtain ⟨a1, c1, l1, rfl, hps1, hlen1⟩ := open_gops (hval 1 23 v1 rfl rfl) h1
  have k2 := h2
  have lt2 : ∀ x ∈ p2, x.block < W.heap.size := by obtain ⟨m, hm⟩ := k2; exact DataW.trod_lt m _ _ _ hm
  obtain ⟨kg2, kv2, kr2, rfl⟩ := open_key (hval 2 37 v2 rfl rfl) h2
  clear hA0 hval0
  refine (GuardForbids_walk W a0 c0 l0 hps0 hlen0 a1 c1 l1 hps1 hlen1 kg2 kv2 kr2).mono fun e W' ⟨he, bel⟩ => ?_
  subst he
  exact ⟨_, rfl, _, _, _, [], _, [], hW', trodAll_mk1 (shut_bool Try.underlying4 _), (trodAll_cons_mk (Below.trod rowLaidOut (by kernel_rfl) (of_decide_eq_true (by kernel_rfl)) k0 bel lt0) (trodAll_cons_mk (Below.trod rowLaidOut (by kernel_rfl) (of_decide_eq_true (by kernel_rfl)) k1 bel lt1) (trodAll_cons_mk (Below.trod rowLaidOut (by kernel_rfl) (of_decide_eq_true (by kernel_rfl)) k2 bel lt2) trodAll_mk0))), rfl, bel.frame _, fun h => by cases h⟩

/-- THE STATEMENT. -/
theorem guardForbids_holds : Rows.GuardForbidsSaid :=
  OpenClaim.holds_of_wide 4 Try.f4 rfl rfl rfl rfl rfl rfl rfl ⟨rfl, rfl, rfl, rfl, rfl⟩ rfl rfl rfl rfl rfl (by kernel_rfl) Try.func4 (by kernel_rfl)
    (of_decide_eq_true (by kernel_rfl)) (by unfold Func.isWrapper; rw [if_neg (of_decide_eq_false (by kernel_rfl))]; exact ⟨rfl, rfl⟩)
    (fun os started H enc _ => guardForbids_lifted os started H enc)
#print axioms guardForbids_holds
end Go.Proofs.Ytldmlmojokicaaa
