/- A guard's All and Drop. A guard's Make. A guard's Loosen. -/
import Derived.Test.YtglohconhbcchaaGreatDoorGf
namespace Go.Proofs.YtglohconhbcchaaGreatDoor
open Go.RowKit Go.Shelf Go.Maps

set_option maxRecDepth 100000 in
set_option maxHeartbeats 1000000 in
theorem all_h {w0 w : World} {A : GAd} {P : Pm} {V : GVl} {G : GS} {ts : List Thing} (H : HG w0 w A P V G ts) (hl : G.loose.length ≤ 1000) :
    Calls Tryz.prog 55 #[.pointer (some ⟨A.dp, 0, none⟩)] w
      fun e w' => (∃ r, e = .returned r) ∧ ∃ V', HG w0 w' A P V' (gall P G) ts := by
  have hc := glist_any H hl
  have hp : gall P G = G.loose.foldl (fun G g => (glook P G g).2) G := rfl
  rw [hp]
  obtain ⟨L, hL⟩ : ∃ L, G.loose = L := ⟨_, rfl⟩
  rw [hL] at hc hl ⊢
  obtain ⟨n, hn⟩ : ∃ n, L.length = n := ⟨_, rfl⟩
  rw [hn] at hl
  have HC := Lib.hid hc
  have HH := Lib.hid H
  have HN := Lib.hid hn
  clear hc H hp hL hn
  go_enter Tryz.func55, Tryz.ntmps55
  go_wp2_with (go_at_call 40; (with_reducible refine HC.out.mono ?_); rintro e W1 ⟨⟨v, rfl, hv⟩, b1⟩; obtain ⟨a, c, rfl⟩ := hv.form; have h1 : HG w0 W1 A P V G (ints (.slice a L.length c) L :: ts) := HH.out.add b1 _ hv.row (fun b hb => hv.lo b hb); rw [HN.out] at h1 ⊢; have HH1 := Lib.hid h1; clear h1 hv)
  go_loopw [3, 7] (fun _ k wr => ∃ m : Nat, m ≤ n ∧ k = .int .i64 m ∧ ∃ V', HG w0 wr A P V' ((L.take m).foldl (fun G g => (glook P G g).2) G) (ints (.slice a n c) L :: ts)) (fun _ k _ => n - (intOf k).toNat)
  case atStart => exact ⟨0, by omega, rfl, V, HH1.out⟩
  case round =>
    obtain ⟨m, hm, rfl, V', H3⟩ := hrel
    by_cases hmn : m < n
    · have hmL : m < L.length := by rw [HN.out]; exact hmn
      obtain ⟨bb, cc, hv, lb, d0⟩ := RowI.at (show RowI wr (.slice a n c) L from H3.top) m hmL
      rw [HN.out] at hv
      obtain ⟨rfl, rfl⟩ : a = some ⟨bb, 0, none⟩ ∧ c = cc := by injection hv with h1 h2 h3; exact ⟨h1, h3⟩
      have ht := foldl_take (fun (G : GS) g => (glook P G g).2) 0 G L m hmL
      obtain ⟨x, hx⟩ : ∃ x, L.getD m 0 = x := ⟨_, rfl⟩
      rw [hx] at d0 ht
      have hz := look_h H3 x
      have HZ := Lib.hid hz
      have HT := Lib.hid ht
      clear hz H3 ht hx hv hmL
      go_wp2_with (go_at_call 58; (with_reducible refine HZ.out.mono ?_); rintro e W4 ⟨rfl, V4, h4⟩; have HH4 := Lib.hid h4; clear h4)
      go_roundw
      case rel => exact ⟨m + 1, by omega, by simp, V4, by rw [HT.out]; exact HH4.out⟩
      case measure => simp [intOf]; omega
    · obtain rfl : m = n := by omega
      rw [List.take_of_length_le (by rw [HN.out]; exact Nat.le_refl _)] at H3
      have HH3 := Lib.hid H3
      clear H3
      go_wp2
      refine bodyPost_end (results_none rfl _ _ _) rfl ⟨⟨_, rfl⟩, V', HH3.out.tail⟩
set_option maxRecDepth 100000 in
set_option maxHeartbeats 2000000 in
theorem gdrop_h {w0 w : World} {A : GAd} {P : Pm} {V : GVl} {G : GS} {ts : List Thing} (H : HG w0 w A P V G ts) (p : Int) :
    Calls Tryz.prog 56 #[.pointer (some ⟨A.dp, 0, none⟩), .int .i64 p] w
      fun e w' => e = .returned (.bool (gdrop G p).1) ∧ ∃ V', HG w0 w' A P V' (gdrop G p).2 ts := by
  have c2 := H.dx.hdr.cell (k := 2) rfl
  have ld := H.dx.hdr.lt
  cases hk : skey G.s.ps p with
  | none =>
    have hp : gdrop G p = (false, G) := by unfold gdrop; rw [hk]
    rw [hp]
    have hky := skey_any H.sx p none hk
    have HK := Lib.hid hky
    have HH := Lib.hid H
    clear hky H hp hk
    go_enter Tryz.func56, Tryz.ntmps56
    go_wp2_with (go_at_call 22; (with_reducible refine HK.out.mono ?_); rintro e W1 ⟨rfl, b1⟩)
    go_ret
    exact ⟨rfl, V, (HH.out.past b1).past (bal W1 _)⟩
  | some k =>
    obtain ⟨pg, _, _, _, hpg⟩ := skey_some hk
    have hp : gdrop G p = (true, ⟨(sdrop G.s p).2, [], (if k.ro = 0 then gtight G k.g else G).loose⟩) := by
      unfold gdrop; rw [hk]
      dsimp only
      by_cases h0 : k.ro = 0
      · simp only [h0, if_true]; rfl
      · simp only [h0, if_false]
    rw [hp]
    have hky := skey_any H.sx p (some k) hk
    obtain ⟨kg, kv, kr⟩ := k
    dsimp only [Option.getD_some, Option.isSome_some] at hky ⊢
    have HK := Lib.hid hky
    have HH := Lib.hid H
    clear hky H hp hk
    by_cases h0 : kr = 0
    · subst h0
      rw [if_pos rfl]
      go_enter Tryz.func56, Tryz.ntmps56
      go_wp2_with (first
        | (go_at_call 22; (with_reducible refine HK.out.mono ?_); rintro e W1 ⟨rfl, b1⟩; have hti := tight_h ((HH.out.past b1).past (bal W1 (.cells #[.int .i64 kg, .int .i64 kv, .int .i64 0] 54))) kg; have HTi := Lib.hid hti; clear hti)
        | (go_at_call 108; (with_reducible refine HTi.out.mono ?_); rintro e W2 ⟨⟨r2, rfl⟩, V2, h2⟩; have d2 := h2.dx.hdr.cell (k := 2) rfl; have l2 := h2.dx.hdr.lt; have hdr := drop_yes h2 p pg hpg; have HDr := Lib.hid hdr; clear h2 hdr)
        | (go_at_call 109; (with_reducible refine HDr.out.mono ?_); rintro e W3 ⟨rfl, V3, h3⟩; have d3 := h3.dx.hdr.cell (k := 3) rfl; have l3 := h3.dx.hdr.lt; have hfl := flush_h h3; have HFl := Lib.hid hfl; clear h3 hfl)
        | (go_at_call 110; (with_reducible refine HFl.out.mono ?_); rintro e W4 ⟨⟨r4, rfl⟩, h4⟩; have HH4 := Lib.hid h4; clear h4))
      go_ret
      exact ⟨rfl, _, HH4.out⟩
    · rw [if_neg h0]
      have f1 : (kr == 0) = false := beq_eq_false_iff_ne.2 h0
      go_enter Tryz.func56, Tryz.ntmps56
      go_wp2_with (first
        | (go_at_call 22; (with_reducible refine HK.out.mono ?_); rintro e W1 ⟨rfl, b1⟩; have h2 := (HH.out.past b1).past (bal W1 (.cells #[.int .i64 kg, .int .i64 kv, .int .i64 kr] 54)); have d2 := (HH.out.past b1).dx.hdr.cell (k := 2) rfl; have l2 := (HH.out.past b1).dx.hdr.lt; have hdr := drop_yes h2 p pg hpg; have HDr := Lib.hid hdr; clear h2 hdr)
        | (go_at_call 109; (with_reducible refine HDr.out.mono ?_); rintro e W3 ⟨rfl, V3, h3⟩; have d3 := h3.dx.hdr.cell (k := 3) rfl; have l3 := h3.dx.hdr.lt; have hfl := flush_h h3; have HFl := Lib.hid hfl; clear h3 hfl)
        | (go_at_call 110; (with_reducible refine HFl.out.mono ?_); rintro e W4 ⟨⟨r4, rfl⟩, h4⟩; have HH4 := Lib.hid h4; clear h4))
      go_ret
      exact ⟨rfl, _, HH4.out⟩
end Go.Proofs.YtglohconhbcchaaGreatDoor

namespace Go.Proofs.YtglohconhbcchaaGreatDoor
open Go.RowKit Go.Shelf Go.Maps

set_option maxRecDepth 100000 in
set_option maxHeartbeats 4000000 in
theorem gmake_h {w0 w : World} {A : GAd} {P : Pm} {V : GVl} {G : GS} {ts : List Thing} (H : HG w0 w A P V G ts) (kg kv kr : Int) :
    Calls Tryz.prog 131 #[.pointer (some ⟨A.dp, 0, none⟩), .agg #[.int .i64 kg, .int .i64 kv, .int .i64 kr]] w
      fun e w' => e = .returned (.tuple #[.int .i64 ((gmake P G ⟨kg, kv, kr⟩).1.getD 0), .bool (gmake P G ⟨kg, kv, kr⟩).1.isSome]) ∧ ∃ V', HG w0 w' A P V' (gmake P G ⟨kg, kv, kr⟩).2 ts := by
  have b0 := bal w (.cells #[.int .i64 kg, .int .i64 kv, .int .i64 kr] 54)
  have hz := Blk.new w 54 [.int .i64 kg, .int .i64 kv, .int .i64 kr]
  obtain ⟨wz, hwz⟩ : ∃ wz, w.alloc (.cells #[.int .i64 kg, .int .i64 kv, .int .i64 kr] 54) = wz := ⟨_, rfl⟩
  rw [show (w.alloc (.cells [Value.int .i64 kg, .int .i64 kv, .int .i64 kr].toArray 54)) = wz from hwz] at hz
  rw [hwz] at b0
  have H1 : HG w0 wz A P V G (box w.heap.size 54 [.int .i64 kg, .int .i64 kv, .int .i64 kr] :: ts) := H.add b0 _ hz (fun b e => Nat.le_of_eq e.symm)
  obtain ⟨zb, hzb⟩ : ∃ zb, w.heap.size = zb := ⟨_, rfl⟩
  rw [hzb] at hz H1
  obtain ⟨o, ho⟩ : ∃ o, sfind G.s.ps ⟨kg, kv, kr⟩ = o := ⟨_, rfl⟩
  have hfi := sfind_any H1.drew.sx kg kv kr o ho
  have hpn : o = none → gmake P G ⟨kg, kv, kr⟩ = (match smake P (gmake1 P G ⟨kg, kv, kr⟩).s ⟨kg, kv, kr⟩ with
    | none => (none, gmake1 P G ⟨kg, kv, kr⟩)
    | some (p, S) => (some p, if kr = 0 then gforbid P { gmake1 P G ⟨kg, kv, kr⟩ with s := S } kg else { gmake1 P G ⟨kg, kv, kr⟩ with s := S })) := fun e => by unfold gmake; rw [ho, e]; rfl
  have hps : ∀ p, o = some p → gmake P G ⟨kg, kv, kr⟩ = (some p, G) := fun p e => by unfold gmake; rw [ho, e]
  have hm1 : gmake1 P G ⟨kg, kv, kr⟩ = if kr = 0 then (glook P G kg).2 else G := rfl
  have D1 := H1.dx.hdr
  have c2 := D1.cell (k := 2) rfl
  have ld := D1.lt
  have z0 := hz.cell (k := 0) rfl
  have z1 := hz.cell (k := 1) rfl
  have z2 := hz.cell (k := 2) rfl
  have lz := hz.lt
  obtain ⟨R, hR⟩ : ∃ R, gmake P G ⟨kg, kv, kr⟩ = R := ⟨_, rfl⟩
  rw [hR] at hpn hps ⊢
  have HFi := Lib.hid hfi
  have HM := Lib.hid hm1
  have HH := Lib.hid H1
  have HW := Lib.hid hwz
  have HZB := Lib.hid hzb
  have HZ := Lib.hid hz
  have HD1 := Lib.hid D1
  clear hfi hm1 H1 H hwz hzb b0 hz D1 ho hR
  cases o with
  | some p =>
    have e := hps p rfl
    subst e
    clear hpn hps
    dsimp only [Option.getD_some, Option.isSome_some]
    go_enter Tryz.func131, Tryz.ntmps131
    go_wp2_with fail
    rw [HW.out, HZB.out]
    go_region_held3 (fun w' => w'.cell? ⟨A.dp, 2, none⟩ = some (.pointer (some ⟨A.sp, 0, none⟩)) ∧ w'.cell? ⟨zb, 0, none⟩ = some (.int .i64 kg) ∧ w'.cell? ⟨zb, 1, none⟩ = some (.int .i64 kv) ∧ w'.cell? ⟨zb, 2, none⟩ = some (.int .i64 kr)) (go_keep) (first
      | (go_at_call 17; (with_reducible refine HFi.out.mono ?_); rintro e W1 ⟨rfl, b1⟩; have q1 := (Below.refl wz.heap.size wz).drew.trans b1; have D2 := HD1.out.past q1; have y2 := D2.cell (k := 2) rfl; have yl := D2.lt; have Z2 := HZ.out.past q1; have x0 := Z2.cell (k := 0) rfl; have x1 := Z2.cell (k := 1) rfl; have x2 := Z2.cell (k := 2) rfl; have xl := Z2.lt; have h1 := HH.out.past q1; have HH1 := Lib.hid h1; clear h1 D2 Z2))
    all_goals
      clear c2 ld z0 z1 z2 lz
      go_wp2_with fail
      go_ret2
      exact ⟨rfl, V, HH1.out.tail⟩
  | none =>
    replace hpn := hpn rfl
    clear hps
    obtain ⟨G1, hG1⟩ : ∃ G1, gmake1 P G ⟨kg, kv, kr⟩ = G1 := ⟨_, rfl⟩
    rw [hG1] at hpn HM
    clear hG1
    by_cases h0 : kr = 0
    · subst h0
      have hm := HM.out.symm
      rw [if_pos rfl] at hm
      have HMx := Lib.hid hm
      clear hm
      cases hsm : smake P G1.s ⟨kg, kv, 0⟩ with
      | none =>
        rw [hsm] at hpn
        dsimp only at hpn
        subst hpn
        dsimp only [Option.getD_none, Option.isSome_none]
        have HSm := Lib.hid hsm
        clear hsm
        go_enter Tryz.func131, Tryz.ntmps131
        go_wp2_with fail
        rw [HW.out, HZB.out]
        go_region_held3 (fun w' => w'.cell? ⟨A.dp, 2, none⟩ = some (.pointer (some ⟨A.sp, 0, none⟩)) ∧ w'.cell? ⟨zb, 0, none⟩ = some (.int .i64 kg) ∧ w'.cell? ⟨zb, 1, none⟩ = some (.int .i64 kv) ∧ w'.cell? ⟨zb, 2, none⟩ = some (.int .i64 0)) (go_keep) (first
          | (go_at_call 17; (with_reducible refine HFi.out.mono ?_); rintro e W1 ⟨rfl, b1⟩; have q1 := (Below.refl wz.heap.size wz).drew.trans b1; have D2 := HD1.out.past q1; have y2 := D2.cell (k := 2) rfl; have yl := D2.lt; have Z2 := HZ.out.past q1; have x0 := Z2.cell (k := 0) rfl; have x1 := Z2.cell (k := 1) rfl; have x2 := Z2.cell (k := 2) rfl; have xl := Z2.lt; have h1 := HH.out.past q1; have HH1 := Lib.hid h1; clear h1 D2 Z2))
        all_goals
          clear c2 ld z0 z1 z2 lz
          go_wp2_with (go_at_call 58; have hlo := look_h HH1.out kg; (with_reducible refine hlo.mono ?_); rintro e W2 ⟨rfl, V2, h2⟩; clear hlo; rw [HMx.out] at h2; have d2 := h2.dx.hdr.cell (k := 2) rfl; have l2 := h2.dx.hdr.lt; have Z3 : Blk W2 zb 54 _ := h2.top; have u0 := Z3.cell (k := 0) rfl; have u1 := Z3.cell (k := 1) rfl; have u2 := Z3.cell (k := 2) rfl; have ul := Z3.lt; have HH2 := Lib.hid h2; clear h2 Z3 y2 yl x0 x1 x2 xl)
          have hmk := make_no HH2.out.drew kg kv 0 HSm.out
          have HMk := Lib.hid hmk
          clear hmk
          go_region_held3 (fun w' => w'.cell? ⟨A.dp, 2, none⟩ = some (.pointer (some ⟨A.sp, 0, none⟩)) ∧ w'.cell? ⟨zb, 0, none⟩ = some (.int .i64 kg) ∧ w'.cell? ⟨zb, 1, none⟩ = some (.int .i64 kv) ∧ w'.cell? ⟨zb, 2, none⟩ = some (.int .i64 0)) (go_keep) (first
            | (go_at_call 27; (with_reducible refine HMk.out.mono ?_); rintro e W3 ⟨rfl, b3⟩; have h3 := HH2.out.drew.past b3; have e2 := h3.dx.hdr.cell (k := 2) rfl; have el := h3.dx.hdr.lt; have Z4 : Blk W3 zb 54 _ := h3.top; have v0 := Z4.cell (k := 0) rfl; have v1 := Z4.cell (k := 1) rfl; have v2 := Z4.cell (k := 2) rfl; have vl := Z4.lt; have HH3 := Lib.hid h3; clear h3 Z4))
          all_goals go_wp2
          all_goals go_ret2
          all_goals exact ⟨rfl, V2, HH3.out.tail⟩
      | some pS =>
        obtain ⟨p, S'⟩ := pS
        rw [hsm] at hpn
        dsimp only at hpn
        rw [if_pos rfl] at hpn
        subst hpn
        dsimp only [Option.getD_some, Option.isSome_some]
        have HSm := Lib.hid hsm
        clear hsm
        go_enter Tryz.func131, Tryz.ntmps131
        go_wp2_with fail
        rw [HW.out, HZB.out]
        go_region_held3 (fun w' => w'.cell? ⟨A.dp, 2, none⟩ = some (.pointer (some ⟨A.sp, 0, none⟩)) ∧ w'.cell? ⟨zb, 0, none⟩ = some (.int .i64 kg) ∧ w'.cell? ⟨zb, 1, none⟩ = some (.int .i64 kv) ∧ w'.cell? ⟨zb, 2, none⟩ = some (.int .i64 0)) (go_keep) (first
          | (go_at_call 17; (with_reducible refine HFi.out.mono ?_); rintro e W1 ⟨rfl, b1⟩; have q1 := (Below.refl wz.heap.size wz).drew.trans b1; have D2 := HD1.out.past q1; have y2 := D2.cell (k := 2) rfl; have yl := D2.lt; have Z2 := HZ.out.past q1; have x0 := Z2.cell (k := 0) rfl; have x1 := Z2.cell (k := 1) rfl; have x2 := Z2.cell (k := 2) rfl; have xl := Z2.lt; have h1 := HH.out.past q1; have HH1 := Lib.hid h1; clear h1 D2 Z2))
        all_goals
          clear c2 ld z0 z1 z2 lz
          go_wp2_with (go_at_call 58; have hlo := look_h HH1.out kg; (with_reducible refine hlo.mono ?_); rintro e W2 ⟨rfl, V2, h2⟩; clear hlo; rw [HMx.out] at h2; have d2 := h2.dx.hdr.cell (k := 2) rfl; have l2 := h2.dx.hdr.lt; have Z3 : Blk W2 zb 54 _ := h2.top; have u0 := Z3.cell (k := 0) rfl; have u1 := Z3.cell (k := 1) rfl; have u2 := Z3.cell (k := 2) rfl; have ul := Z3.lt; have HH2 := Lib.hid h2; clear h2 Z3 y2 yl x0 x1 x2 xl)
          have hmk := make_yes HH2.out.drew kg kv 0 p S' HSm.out
          have HMk := Lib.hid hmk
          clear hmk
          go_region_held3 (fun w' => w'.cell? ⟨A.dp, 2, none⟩ = some (.pointer (some ⟨A.sp, 0, none⟩)) ∧ w'.cell? ⟨zb, 0, none⟩ = some (.int .i64 kg) ∧ w'.cell? ⟨zb, 1, none⟩ = some (.int .i64 kv) ∧ w'.cell? ⟨zb, 2, none⟩ = some (.int .i64 0)) (go_keep) (first
            | (go_at_call 27; (with_reducible refine HMk.out.mono ?_); rintro e W3 ⟨rfl, V3, h3⟩; have e2 := h3.dx.hdr.cell (k := 2) rfl; have el := h3.dx.hdr.lt; have Z4 : Blk W3 zb 54 _ := h3.top; have v0 := Z4.cell (k := 0) rfl; have v1 := Z4.cell (k := 1) rfl; have v2 := Z4.cell (k := 2) rfl; have vl := Z4.lt; have HH3 := Lib.hid h3; clear h3 Z4))
          all_goals clear d2 l2 u0 u1 u2 ul
          all_goals
            have hfo := forbid_h HH3.out kg
            have HFo := Lib.hid hfo
            clear hfo
            go_wp2_with (go_at_call 112; (with_reducible refine HFo.out.mono ?_); rintro e W4 ⟨⟨r4, rfl⟩, V4, h4⟩; have HH4 := Lib.hid h4; clear h4)
            go_ret2
            refine ⟨rfl, V4, ?_⟩
            exact HH4.out.tail
    · have hm := HM.out
      rw [if_neg h0] at hm
      subst hm
      have f1 : (kr == 0) = false := beq_eq_false_iff_ne.2 h0
      cases hsm : smake P G1.s ⟨kg, kv, kr⟩ with
      | none =>
        rw [hsm] at hpn
        dsimp only at hpn
        subst hpn
        dsimp only [Option.getD_none, Option.isSome_none]
        have HSm := Lib.hid hsm
        clear hsm
        go_enter Tryz.func131, Tryz.ntmps131
        go_wp2_with fail
        rw [HW.out, HZB.out]
        go_region_held3 (fun w' => w'.cell? ⟨A.dp, 2, none⟩ = some (.pointer (some ⟨A.sp, 0, none⟩)) ∧ w'.cell? ⟨zb, 0, none⟩ = some (.int .i64 kg) ∧ w'.cell? ⟨zb, 1, none⟩ = some (.int .i64 kv) ∧ w'.cell? ⟨zb, 2, none⟩ = some (.int .i64 kr)) (go_keep) (first
          | (go_at_call 17; (with_reducible refine HFi.out.mono ?_); rintro e W1 ⟨rfl, b1⟩; have q1 := (Below.refl wz.heap.size wz).drew.trans b1; have D2 := HD1.out.past q1; have y2 := D2.cell (k := 2) rfl; have yl := D2.lt; have Z2 := HZ.out.past q1; have x0 := Z2.cell (k := 0) rfl; have x1 := Z2.cell (k := 1) rfl; have x2 := Z2.cell (k := 2) rfl; have xl := Z2.lt; have h1 := HH.out.past q1; have HH1 := Lib.hid h1; clear h1 D2 Z2))
        all_goals
          clear c2 ld z0 z1 z2 lz
          go_wp2_with fail
          have hmk := make_no HH1.out.drew kg kv kr HSm.out
          have HMk := Lib.hid hmk
          clear hmk
          go_region_held3 (fun w' => w'.cell? ⟨A.dp, 2, none⟩ = some (.pointer (some ⟨A.sp, 0, none⟩)) ∧ w'.cell? ⟨zb, 0, none⟩ = some (.int .i64 kg) ∧ w'.cell? ⟨zb, 1, none⟩ = some (.int .i64 kv) ∧ w'.cell? ⟨zb, 2, none⟩ = some (.int .i64 kr)) (go_keep) (first
            | (go_at_call 27; (with_reducible refine HMk.out.mono ?_); rintro e W3 ⟨rfl, b3⟩; have h3 := HH1.out.drew.past b3; have e2 := h3.dx.hdr.cell (k := 2) rfl; have el := h3.dx.hdr.lt; have Z4 : Blk W3 zb 54 _ := h3.top; have v0 := Z4.cell (k := 0) rfl; have v1 := Z4.cell (k := 1) rfl; have v2 := Z4.cell (k := 2) rfl; have vl := Z4.lt; have HH3 := Lib.hid h3; clear h3 Z4))
          all_goals go_wp2
          all_goals go_ret2
          all_goals exact ⟨rfl, V, HH3.out.tail⟩
      | some pS =>
        obtain ⟨p, S'⟩ := pS
        rw [hsm] at hpn
        dsimp only at hpn
        rw [if_neg h0] at hpn
        subst hpn
        dsimp only [Option.getD_some, Option.isSome_some]
        have HSm := Lib.hid hsm
        clear hsm
        clear h0
        go_enter Tryz.func131, Tryz.ntmps131
        go_wp2_with fail
        rw [HW.out, HZB.out]
        go_region_held3 (fun w' => w'.cell? ⟨A.dp, 2, none⟩ = some (.pointer (some ⟨A.sp, 0, none⟩)) ∧ w'.cell? ⟨zb, 0, none⟩ = some (.int .i64 kg) ∧ w'.cell? ⟨zb, 1, none⟩ = some (.int .i64 kv) ∧ w'.cell? ⟨zb, 2, none⟩ = some (.int .i64 kr)) (go_keep) (first
          | (go_at_call 17; (with_reducible refine HFi.out.mono ?_); rintro e W1 ⟨rfl, b1⟩; have q1 := (Below.refl wz.heap.size wz).drew.trans b1; have D2 := HD1.out.past q1; have y2 := D2.cell (k := 2) rfl; have yl := D2.lt; have Z2 := HZ.out.past q1; have x0 := Z2.cell (k := 0) rfl; have x1 := Z2.cell (k := 1) rfl; have x2 := Z2.cell (k := 2) rfl; have xl := Z2.lt; have h1 := HH.out.past q1; have HH1 := Lib.hid h1; clear h1 D2 Z2))
        all_goals
          clear c2 ld z0 z1 z2 lz
          go_wp2_with fail
          have hmk := make_yes HH1.out.drew kg kv kr p S' HSm.out
          have HMk := Lib.hid hmk
          clear hmk
          go_region_held3 (fun w' => w'.cell? ⟨A.dp, 2, none⟩ = some (.pointer (some ⟨A.sp, 0, none⟩)) ∧ w'.cell? ⟨zb, 0, none⟩ = some (.int .i64 kg) ∧ w'.cell? ⟨zb, 1, none⟩ = some (.int .i64 kv) ∧ w'.cell? ⟨zb, 2, none⟩ = some (.int .i64 kr)) (go_keep) (first
            | (go_at_call 27; (with_reducible refine HMk.out.mono ?_); rintro e W3 ⟨rfl, V3, h3⟩; have e2 := h3.dx.hdr.cell (k := 2) rfl; have el := h3.dx.hdr.lt; have Z4 : Blk W3 zb 54 _ := h3.top; have v0 := Z4.cell (k := 0) rfl; have v1 := Z4.cell (k := 1) rfl; have v2 := Z4.cell (k := 2) rfl; have vl := Z4.lt; have HH3 := Lib.hid h3; clear h3 Z4))
          all_goals clear y2 yl x0 x1 x2 xl
          all_goals go_wp2
          all_goals go_ret2
          all_goals exact ⟨rfl, V3, HH3.out.tail⟩
end Go.Proofs.YtglohconhbcchaaGreatDoor

namespace Go.Proofs.YtglohconhbcchaaGreatDoor
open Go.RowKit Go.Shelf Go.Maps

section
variable {G : GS} {g p : Int}
theorem ls_false (h : loosens G g = false) : gloosen G g = (false, G) := by unfold gloosen; rw [h]; rfl
theorem ls_mem (h : G.loose.contains g = true) : loosens G g = false := by
  unfold loosens
  split
  · rw [h]; rfl
  · rfl
theorem ls_len (h : (sof G.s.ps g).length ≠ 1) : loosens G g = false := by
  unfold loosens
  split
  · rename_i e; rw [e] at h; exact absurd rfl h
  · rfl
theorem ls_one (hL : sof G.s.ps g = [p]) (hc : G.loose.contains g = false) : loosens G g = (match stold G.s.ps 1 p with
    | [u] => decide (((skey G.s.ps p).getD ⟨0, 0, 0⟩).lv = 1) && decide ((stold G.s.ps 1 u.1).length = 1)
    | _ => false) := by unfold loosens; rw [hL]; simp only [hc]; rfl
theorem ls_lv (hL : sof G.s.ps g = [p]) (hc : G.loose.contains g = false) (hk : ((skey G.s.ps p).getD ⟨0, 0, 0⟩).lv ≠ 1) : loosens G g = false := by
  rw [ls_one hL hc]
  split
  · rw [decide_eq_false hk]; rfl
  · rfl
theorem ls_up (hL : sof G.s.ps g = [p]) (hc : G.loose.contains g = false) (hu : (stold G.s.ps 1 p).length ≠ 1) : loosens G g = false := by
  rw [ls_one hL hc]
  split
  · rename_i e; rw [e] at hu; exact absurd rfl hu
  · rfl
theorem ls_yes (hL : sof G.s.ps g = [p]) (hc : G.loose.contains g = false) (hk : ((skey G.s.ps p).getD ⟨0, 0, 0⟩).lv = 1) {u : Int × Int} (hu : stold G.s.ps 1 p = [u]) : loosens G g = decide ((stold G.s.ps 1 u.1).length = 1) := by
  rw [ls_one hL hc, hu]
  dsimp only
  rw [decide_eq_true hk, Bool.true_and]
end
theorem set3 {W w0 : World} {b B0 : Nat} {T : TypeId} {x0 x1 x2 : Value} (v0 v1 v2 : Value) (h : Blk W b T [x0, x1, x2]) (hB : Below B0 w0 W) (hb : B0 ≤ b) :
    Blk (((W.setCell ⟨b, 0, none⟩ v0).setCell ⟨b, 1, none⟩ v1).setCell ⟨b, 2, none⟩ v2) b T [v0, v1, v2] ∧
    Below B0 w0 (((W.setCell ⟨b, 0, none⟩ v0).setCell ⟨b, 1, none⟩ v1).setCell ⟨b, 2, none⟩ v2) :=
  ⟨((h.set 0 v0).set 1 v1).set 2 v2,
   ((hB.setCell (p := ⟨b, 0, none⟩) hb v0).setCell (p := ⟨b, 1, none⟩) hb v1).setCell (p := ⟨b, 2, none⟩) hb v2⟩
set_option maxRecDepth 100000 in
set_option maxHeartbeats 4000000 in
theorem loosen_h {w0 w : World} {A : GAd} {P : Pm} {V : GVl} {G : GS} {ts : List Thing} (H : HG w0 w A P V G ts) (hl : G.loose.length ≤ 1000) (g : Int) :
    Calls Tryz.prog 54 #[.pointer (some ⟨A.dp, 0, none⟩), .int .i64 g] w
      fun e w' => e = .returned (.bool (gloosen G g).1) ∧ ∃ V', HG w0 w' A P V' (gloosen G g).2 ts := by
  have hof := sof_any H.sx g
  have hlo := fun W (hW : Below w.heap.size w W) => gloose_any (H.past hW) g
  have hnl := sof_len H.inv g
  have D0 := H.dx.hdr
  have c2 := D0.cell (k := 2) rfl
  have ld := D0.lt
  have hsl := fun f => stold_len H.inv 1 f
  obtain ⟨L, hL⟩ : ∃ L, sof G.s.ps g = L := ⟨_, rfl⟩
  rw [hL] at hof hnl
  obtain ⟨lo, hlb⟩ : ∃ b, G.loose.contains g = b := ⟨_, rfl⟩
  rw [hlb] at hlo
  obtain ⟨n, hn⟩ : ∃ n, L.length = n := ⟨_, rfl⟩
  rw [hn] at hnl
  have HOf := Lib.hid hof
  have HLo := Lib.hid hlo
  have HH := Lib.hid H
  have HD0 := Lib.hid D0
  have HN := Lib.hid hn
  have HSl := Lib.hid hsl
  clear hof hlo D0 hsl
  cases lo with
  | true =>
    rw [ls_false (ls_mem hlb)]
    clear hL hlb hn H hl
    go_enter Tryz.func54, Tryz.ntmps54
    go_wp2_with (first
      | (go_at_call 70; (with_reducible refine HOf.out.mono ?_); rintro e W1 ⟨⟨v, rfl, hv⟩, b1⟩; obtain ⟨a, c, rfl⟩ := hv.form; have h1 : HG w0 W1 A P V G (ints (.slice a L.length c) L :: ts) := HH.out.add b1 _ hv.row (fun b hb => hv.lo b hb); rw [HN.out] at h1 ⊢; have HH1 := Lib.hid h1; clear h1 hv)
      | (go_at_call 71; (with_reducible refine (HLo.out W1 b1).mono ?_); rintro e W2 ⟨rfl, b2⟩; have h2 := HH1.out.past b2; have HH2 := Lib.hid h2; clear h2 HH1))
    go_ret
    exact ⟨rfl, V, HH2.out.tail⟩
  | false =>
    by_cases h1 : n = 1
    rotate_left
    · rw [ls_false (ls_len (by rw [hL, hn]; exact h1))]
      have f1 : ((n : Int) != 1) = true := bne_iff_ne.2 (by omega)
      clear hL hlb hn H hl h1
      go_enter Tryz.func54, Tryz.ntmps54
      go_wp2_with (first
        | (go_at_call 70; (with_reducible refine HOf.out.mono ?_); rintro e W1 ⟨⟨v, rfl, hv⟩, b1⟩; obtain ⟨a, c, rfl⟩ := hv.form; have h1 : HG w0 W1 A P V G (ints (.slice a L.length c) L :: ts) := HH.out.add b1 _ hv.row (fun b hb => hv.lo b hb); rw [HN.out] at h1 ⊢; have HH1 := Lib.hid h1; clear h1 hv)
        | (go_at_call 71; (with_reducible refine (HLo.out W1 b1).mono ?_); rintro e W2 ⟨rfl, b2⟩; have h2 := HH1.out.past b2; have HH2 := Lib.hid h2; clear h2 HH1))
      go_ret
      exact ⟨rfl, V, HH2.out.tail⟩
    · subst h1
      obtain ⟨p, rfl⟩ := List.length_eq_one_iff.1 hn
      have hle := HSl.out p
      obtain ⟨un, hun⟩ : ∃ n, (stold G.s.ps 1 p).length = n := ⟨_, rfl⟩
      rw [hun] at hle
      obtain ⟨ok, hok⟩ : ∃ o, skey G.s.ps p = o := ⟨_, rfl⟩
      have hky := fun W (hW : Below w.heap.size w W) => skey_any (H.past hW).sx p ok hok
      obtain ⟨⟨kg, kv, kr⟩, hko⟩ : ∃ q, ok.getD key0 = q := ⟨_, rfl⟩
      have hlv : ((skey G.s.ps p).getD ⟨0, 0, 0⟩).lv = kv := by rw [hok, show (ok.getD ⟨0, 0, 0⟩) = ⟨kg, kv, kr⟩ from hko]
      rw [hko] at hky
      dsimp only at hky
      obtain ⟨kk, hkk⟩ : ∃ b, ok.isSome = b := ⟨_, rfl⟩
      rw [hkk] at hky
      have HKy := Lib.hid hky
      clear hky hok hko hkk
      by_cases hkv : kv = 1
      rotate_left
      · rw [ls_false (ls_lv hL hlb (by rw [hlv]; exact hkv))]
        have f1 : (kv != 1) = true := bne_iff_ne.2 hkv
        have HU := Lib.hid hun
        clear hL hlb hlv hun hn H hl hkv
        go_enter Tryz.func54, Tryz.ntmps54
        go_wp2_with (first
          | (go_at_call 70; (with_reducible refine HOf.out.mono ?_); rintro e W1 ⟨⟨v, rfl, hv⟩, b1⟩; obtain ⟨a, c, rfl⟩ := hv.form; have h1 : HG w0 W1 A P V G (ints (.slice a [p].length c) [p] :: ts) := HH.out.add b1 _ hv.row (fun b hb => hv.lo b hb); rw [HN.out] at h1 ⊢; have HH1 := Lib.hid h1; clear h1 hv)
          | (go_at_call 71; (with_reducible refine (HLo.out W1 b1).mono ?_); rintro e W2 ⟨rfl, b2⟩; have h2 := HH1.out.past b2; have HH2 := Lib.hid h2; clear h2 HH1))
        have d2 := HH2.out.dx.hdr
        have e2 := d2.cell (k := 2) rfl
        have le := d2.lt
        have HD2 := Lib.hid d2
        clear d2
        obtain ⟨bb, cc, hv, lb, s0⟩ := RowI.at (show RowI W2 (.slice a 1 c) [p] from HH2.out.top) 0 (by simp)
        obtain ⟨rfl, rfl⟩ : a = some ⟨bb, 0, none⟩ ∧ c = cc := by { injection hv with h1 h2 h3; exact ⟨h1, h3⟩ }
        replace s0 : W2.cell? ⟨bb, 0, none⟩ = some (.int .i64 p) := s0
        have n1 : A.dp ≠ W2.heap.size := by omega
        have n1' : W2.heap.size ≠ A.dp := by omega
        have n2 : bb ≠ W2.heap.size := by omega
        have n2' : W2.heap.size ≠ bb := by omega
        go_region_held3 (fun w' => w'.cell? ⟨A.dp, 2, none⟩ = some (.pointer (some ⟨A.sp, 0, none⟩)) ∧ w'.cell? ⟨bb, 0, none⟩ = some (.int .i64 p)) (go_keep) (first
          | (go_at_call 22; (with_reducible refine (HKy.out W2.drew (b1.trans (b2.drew.mono b1.size))).mono ?_); rintro e W3 ⟨rfl, b3⟩; have q3 := (Below.refl W2.heap.size W2).drew.trans b3; have D3 := HD2.out.past q3; have y2 := D3.cell (k := 2) rfl; have yl := D3.lt; obtain ⟨bb3, cc3, hv3, l3, z0⟩ := RowI.at (show RowI W3 (.slice (some ⟨bb, 0, none⟩) 1 c) [p] from (HH2.out.past q3).top) 0 (by simp); obtain ⟨rfl, rfl⟩ : bb = bb3 ∧ c = cc3 := by { injection hv3 with h1 h2 h3; injection h1 with h1; injection h1 with h1; exact ⟨h1, h3⟩ }; replace z0 : W3.cell? ⟨bb, 0, none⟩ = some (.int .i64 p) := z0)
          | (go_at_call 22; (with_reducible refine (HKy.out (W2.alloc (.cells #[.int .i64 0, .int .i64 0, .int .i64 0] 54)).drew ((b1.trans (b2.mono b1.size)).trans ((bal W2 (.cells #[.int .i64 0, .int .i64 0, .int .i64 0] 54)).drew.mono (b1.trans (b2.mono b1.size)).size))).mono ?_); rintro e W3 ⟨rfl, b3⟩; have q3 := (bal W2 (.cells #[.int .i64 0, .int .i64 0, .int .i64 0] 54)).drew.trans (b3.mono (by simp)); have D3 := HD2.out.past q3; have y2 := D3.cell (k := 2) rfl; have yl := D3.lt; obtain ⟨bb3, cc3, hv3, l3, z0⟩ := RowI.at (show RowI W3 (.slice (some ⟨bb, 0, none⟩) 1 c) [p] from (HH2.out.past q3).top) 0 (by simp); obtain ⟨rfl, rfl⟩ : bb = bb3 ∧ c = cc3 := by { injection hv3 with h1 h2 h3; injection h1 with h1; injection h1 with h1; exact ⟨h1, h3⟩ }; replace z0 : W3.cell? ⟨bb, 0, none⟩ = some (.int .i64 p) := z0; have ZP := (Blk.new W2 54 [.int .i64 0, .int .i64 0, .int .i64 0]).drew.past b3; have zc0 := ZP.cell (k := 0) rfl; have zc1 := ZP.cell (k := 1) rfl; have zc2 := ZP.cell (k := 2) rfl; have zcf := fun j => ZP.free j; have zcl := ZP.lt))
        all_goals (first
          | (obtain ⟨P5, q5⟩ := set3 (.int .i64 kg) (.int .i64 kv) (.int .i64 kr) ZP q3 (Nat.le_refl _)
             have H5 := HH2.out.add q5 (box W2.heap.size 54 [.int .i64 kg, .int .i64 kv, .int .i64 kr]) P5 (fun b e => Nat.le_of_eq e.symm)
             obtain ⟨kb, hkb⟩ : ∃ t, W2.heap.size = t := ⟨_, rfl⟩
             obtain ⟨W5, hW5⟩ : ∃ W', ((W3.setCell ⟨W2.heap.size, 0, none⟩ (.int .i64 kg)).setCell ⟨W2.heap.size, 1, none⟩ (.int .i64 kv)).setCell ⟨W2.heap.size, 2, none⟩ (.int .i64 kr) = W' := ⟨_, rfl⟩
             rw [hW5] at H5
             rw [hkb] at H5
             rw [hW5, hkb]
             clear hW5 hkb q5 q3 b3 P5 ZP zc0 zc1 zc2 zcf zcl)
          | (have bn := bal W3 (.cells #[.int .i64 kg, .int .i64 kv, .int .i64 kr] 54)
             have P5 := Blk.new W3 54 [.int .i64 kg, .int .i64 kv, .int .i64 kr]
             have H5 := (HH2.out.past q3).add bn (box W3.heap.size 54 [.int .i64 kg, .int .i64 kv, .int .i64 kr]) P5 (fun b e => Nat.le_of_eq e.symm)
             obtain ⟨kb, hkb⟩ : ∃ t, W3.heap.size = t := ⟨_, rfl⟩
             obtain ⟨W5, hW5⟩ : ∃ W', W3.alloc (.cells #[.int .i64 kg, .int .i64 kv, .int .i64 kr] 54) = W' := ⟨_, rfl⟩
             rw [hW5, hkb] at H5
             rw [hW5, hkb]
             clear hW5 hkb bn q3 b3 P5))
        all_goals
          clear D3 y2 yl l3 z0 n1 n1' n2 n2' e2 le lb s0 HH2
          have d5 := H5.dx.hdr
          have e2 := d5.cell (k := 2) rfl
          have le := d5.lt
          obtain ⟨bb5, cc5, hv5, l5, s0⟩ := RowI.at (show RowI W5 (.slice (some ⟨bb, 0, none⟩) 1 c) [p] from H5.top2) 0 (by simp)
          obtain ⟨rfl, rfl⟩ : bb = bb5 ∧ c = cc5 := by { injection hv5 with h1 h2 h3; injection h1 with h1; injection h1 with h1; exact ⟨h1, h3⟩ }
          replace s0 : W5.cell? ⟨bb, 0, none⟩ = some (.int .i64 p) := s0
          have hpa := parents_any H5.drew.sx p
          have HPa := Lib.hid hpa
          have HH5 := Lib.hid H5
          clear hpa H5 d5
          go_wp2_with fail
          go_region_held3 (fun w' => w'.cell? ⟨A.dp, 2, none⟩ = some (.pointer (some ⟨A.sp, 0, none⟩)) ∧ w'.cell? ⟨bb, 0, none⟩ = some (.int .i64 p)) (go_keep) (first
            | (go_at_call 107; (with_reducible refine HPa.out.mono ?_); rintro e W6 ⟨⟨v6, rfl, hr6⟩, b6⟩; obtain ⟨a6, c6, rfl⟩ := hr6.form; have h6 := HH5.out.drew.add b6 (ats (.slice a6 (stold G.s.ps 1 p).length c6) (stold G.s.ps 1 p)) (hr6.base (Nat.zero_le _)) (fun b hb => hr6.lo b hb); have g2 := h6.dx.hdr.cell (k := 2) rfl; have gl := h6.dx.hdr.lt; obtain ⟨bb6, cc6, hv6, l6, t0⟩ := RowI.at (show RowI W6 (.slice (some ⟨bb, 0, none⟩) 1 c) [p] from h6.tail.top2) 0 (by simp); obtain ⟨rfl, rfl⟩ : bb = bb6 ∧ c = cc6 := by { injection hv6 with h1 h2 h3; injection h1 with h1; injection h1 with h1; exact ⟨h1, h3⟩ }; replace t0 : W6.cell? ⟨bb, 0, none⟩ = some (.int .i64 p) := t0; have kc : Blk W6 kb 54 _ := h6.top2; have k1 := kc.cell (k := 1) rfl; have kl := kc.lt; have HH6 := Lib.hid h6; clear h6 hr6 kc))
          all_goals
            clear e2 le s0 HH5
            rw [HU.out] at HH6 ⊢
            go_wp2_with fail
            go_quiet (fail)
            go_wp2_with fail
            go_ret
            exact ⟨rfl, V, (HH6.out.drewN _).tail.tail.tail⟩
      · subst hkv
        by_cases hu1 : un = 1
        rotate_left
        · rw [ls_false (ls_up hL hlb (by rw [hun]; exact hu1))]
          have f1 : ((un : Int) != 1) = true := bne_iff_ne.2 (by omega)
          have HU := Lib.hid hun
          clear hL hlb hlv hun hn H hl hu1
          go_enter Tryz.func54, Tryz.ntmps54
          go_wp2_with (first
            | (go_at_call 70; (with_reducible refine HOf.out.mono ?_); rintro e W1 ⟨⟨v, rfl, hv⟩, b1⟩; obtain ⟨a, c, rfl⟩ := hv.form; have h1 : HG w0 W1 A P V G (ints (.slice a [p].length c) [p] :: ts) := HH.out.add b1 _ hv.row (fun b hb => hv.lo b hb); rw [HN.out] at h1 ⊢; have HH1 := Lib.hid h1; clear h1 hv)
            | (go_at_call 71; (with_reducible refine (HLo.out W1 b1).mono ?_); rintro e W2 ⟨rfl, b2⟩; have h2 := HH1.out.past b2; have HH2 := Lib.hid h2; clear h2 HH1))
          have d2 := HH2.out.dx.hdr
          have e2 := d2.cell (k := 2) rfl
          have le := d2.lt
          have HD2 := Lib.hid d2
          clear d2
          obtain ⟨bb, cc, hv, lb, s0⟩ := RowI.at (show RowI W2 (.slice a 1 c) [p] from HH2.out.top) 0 (by simp)
          obtain ⟨rfl, rfl⟩ : a = some ⟨bb, 0, none⟩ ∧ c = cc := by { injection hv with h1 h2 h3; exact ⟨h1, h3⟩ }
          replace s0 : W2.cell? ⟨bb, 0, none⟩ = some (.int .i64 p) := s0
          have n1 : A.dp ≠ W2.heap.size := by omega
          have n1' : W2.heap.size ≠ A.dp := by omega
          have n2 : bb ≠ W2.heap.size := by omega
          have n2' : W2.heap.size ≠ bb := by omega
          go_region_held3 (fun w' => w'.cell? ⟨A.dp, 2, none⟩ = some (.pointer (some ⟨A.sp, 0, none⟩)) ∧ w'.cell? ⟨bb, 0, none⟩ = some (.int .i64 p)) (go_keep) (first
            | (go_at_call 22; (with_reducible refine (HKy.out W2.drew (b1.trans (b2.drew.mono b1.size))).mono ?_); rintro e W3 ⟨rfl, b3⟩; have q3 := (Below.refl W2.heap.size W2).drew.trans b3; have D3 := HD2.out.past q3; have y2 := D3.cell (k := 2) rfl; have yl := D3.lt; obtain ⟨bb3, cc3, hv3, l3, z0⟩ := RowI.at (show RowI W3 (.slice (some ⟨bb, 0, none⟩) 1 c) [p] from (HH2.out.past q3).top) 0 (by simp); obtain ⟨rfl, rfl⟩ : bb = bb3 ∧ c = cc3 := by { injection hv3 with h1 h2 h3; injection h1 with h1; injection h1 with h1; exact ⟨h1, h3⟩ }; replace z0 : W3.cell? ⟨bb, 0, none⟩ = some (.int .i64 p) := z0)
            | (go_at_call 22; (with_reducible refine (HKy.out (W2.alloc (.cells #[.int .i64 0, .int .i64 0, .int .i64 0] 54)).drew ((b1.trans (b2.mono b1.size)).trans ((bal W2 (.cells #[.int .i64 0, .int .i64 0, .int .i64 0] 54)).drew.mono (b1.trans (b2.mono b1.size)).size))).mono ?_); rintro e W3 ⟨rfl, b3⟩; have q3 := (bal W2 (.cells #[.int .i64 0, .int .i64 0, .int .i64 0] 54)).drew.trans (b3.mono (by simp)); have D3 := HD2.out.past q3; have y2 := D3.cell (k := 2) rfl; have yl := D3.lt; obtain ⟨bb3, cc3, hv3, l3, z0⟩ := RowI.at (show RowI W3 (.slice (some ⟨bb, 0, none⟩) 1 c) [p] from (HH2.out.past q3).top) 0 (by simp); obtain ⟨rfl, rfl⟩ : bb = bb3 ∧ c = cc3 := by { injection hv3 with h1 h2 h3; injection h1 with h1; injection h1 with h1; exact ⟨h1, h3⟩ }; replace z0 : W3.cell? ⟨bb, 0, none⟩ = some (.int .i64 p) := z0; have ZP := (Blk.new W2 54 [.int .i64 0, .int .i64 0, .int .i64 0]).drew.past b3; have zc0 := ZP.cell (k := 0) rfl; have zc1 := ZP.cell (k := 1) rfl; have zc2 := ZP.cell (k := 2) rfl; have zcf := fun j => ZP.free j; have zcl := ZP.lt))
          all_goals (first
            | (obtain ⟨P5, q5⟩ := set3 (.int .i64 kg) (.int .i64 1) (.int .i64 kr) ZP q3 (Nat.le_refl _)
               have H5 := HH2.out.add q5 (box W2.heap.size 54 [.int .i64 kg, .int .i64 1, .int .i64 kr]) P5 (fun b e => Nat.le_of_eq e.symm)
               obtain ⟨kb, hkb⟩ : ∃ t, W2.heap.size = t := ⟨_, rfl⟩
               obtain ⟨W5, hW5⟩ : ∃ W', ((W3.setCell ⟨W2.heap.size, 0, none⟩ (.int .i64 kg)).setCell ⟨W2.heap.size, 1, none⟩ (.int .i64 1)).setCell ⟨W2.heap.size, 2, none⟩ (.int .i64 kr) = W' := ⟨_, rfl⟩
               rw [hW5] at H5
               rw [hkb] at H5
               rw [hW5, hkb]
               clear hW5 hkb q5 q3 b3 P5 ZP zc0 zc1 zc2 zcf zcl)
            | (have bn := bal W3 (.cells #[.int .i64 kg, .int .i64 1, .int .i64 kr] 54)
               have P5 := Blk.new W3 54 [.int .i64 kg, .int .i64 1, .int .i64 kr]
               have H5 := (HH2.out.past q3).add bn (box W3.heap.size 54 [.int .i64 kg, .int .i64 1, .int .i64 kr]) P5 (fun b e => Nat.le_of_eq e.symm)
               obtain ⟨kb, hkb⟩ : ∃ t, W3.heap.size = t := ⟨_, rfl⟩
               obtain ⟨W5, hW5⟩ : ∃ W', W3.alloc (.cells #[.int .i64 kg, .int .i64 1, .int .i64 kr] 54) = W' := ⟨_, rfl⟩
               rw [hW5, hkb] at H5
               rw [hW5, hkb]
               clear hW5 hkb bn q3 b3 P5))
          all_goals
            clear D3 y2 yl l3 z0 n1 n1' n2 n2' e2 le lb s0 HH2
            have d5 := H5.dx.hdr
            have e2 := d5.cell (k := 2) rfl
            have le := d5.lt
            obtain ⟨bb5, cc5, hv5, l5, s0⟩ := RowI.at (show RowI W5 (.slice (some ⟨bb, 0, none⟩) 1 c) [p] from H5.top2) 0 (by simp)
            obtain ⟨rfl, rfl⟩ : bb = bb5 ∧ c = cc5 := by { injection hv5 with h1 h2 h3; injection h1 with h1; injection h1 with h1; exact ⟨h1, h3⟩ }
            replace s0 : W5.cell? ⟨bb, 0, none⟩ = some (.int .i64 p) := s0
            have hpa := parents_any H5.drew.sx p
            have HPa := Lib.hid hpa
            have HH5 := Lib.hid H5
            clear hpa H5 d5
            go_wp2_with fail
            go_region_held3 (fun w' => w'.cell? ⟨A.dp, 2, none⟩ = some (.pointer (some ⟨A.sp, 0, none⟩)) ∧ w'.cell? ⟨bb, 0, none⟩ = some (.int .i64 p)) (go_keep) (first
              | (go_at_call 107; (with_reducible refine HPa.out.mono ?_); rintro e W6 ⟨⟨v6, rfl, hr6⟩, b6⟩; obtain ⟨a6, c6, rfl⟩ := hr6.form; have h6 := HH5.out.drew.add b6 (ats (.slice a6 (stold G.s.ps 1 p).length c6) (stold G.s.ps 1 p)) (hr6.base (Nat.zero_le _)) (fun b hb => hr6.lo b hb); have g2 := h6.dx.hdr.cell (k := 2) rfl; have gl := h6.dx.hdr.lt; obtain ⟨bb6, cc6, hv6, l6, t0⟩ := RowI.at (show RowI W6 (.slice (some ⟨bb, 0, none⟩) 1 c) [p] from h6.tail.top2) 0 (by simp); obtain ⟨rfl, rfl⟩ : bb = bb6 ∧ c = cc6 := by { injection hv6 with h1 h2 h3; injection h1 with h1; injection h1 with h1; exact ⟨h1, h3⟩ }; replace t0 : W6.cell? ⟨bb, 0, none⟩ = some (.int .i64 p) := t0; have kc : Blk W6 kb 54 _ := h6.top2; have k1 := kc.cell (k := 1) rfl; have kl := kc.lt; have HH6 := Lib.hid h6; clear h6 hr6 kc))
            all_goals
              clear e2 le s0 HH5
              rw [HU.out] at HH6 ⊢
              go_wp2_with fail
              go_quiet (fail)
              go_wp2_with fail
              go_ret
              exact ⟨rfl, V, (HH6.out.drewN _).tail.tail.tail⟩
        · subst hu1
          obtain ⟨⟨u1, u2⟩, hu⟩ := List.length_eq_one_iff.1 hun
          have hy := ls_yes hL hlb hlv hu
          have hle2 := HSl.out u1
          obtain ⟨un2, hun2⟩ : ∃ n, (stold G.s.ps 1 u1).length = n := ⟨_, rfl⟩
          rw [hun2] at hle2
          dsimp only at hy
          rw [hun2] at hy
          have HU2 := Lib.hid hun2
          have HUl := Lib.hid hun
          have HU := Lib.hid hu
          by_cases hu2 : un2 = 1
          rotate_left
          · rw [ls_false (hy.trans (decide_eq_false hu2))]
            have f1 : ((un2 : Int) != 1) = true := bne_iff_ne.2 (by omega)
            clear hL hlb hlv hun hu hy hn H hl hu2 hun2
            go_enter Tryz.func54, Tryz.ntmps54
            go_wp2_with (first
              | (go_at_call 70; (with_reducible refine HOf.out.mono ?_); rintro e W1 ⟨⟨v, rfl, hv⟩, b1⟩; obtain ⟨a, c, rfl⟩ := hv.form; have h1 : HG w0 W1 A P V G (ints (.slice a [p].length c) [p] :: ts) := HH.out.add b1 _ hv.row (fun b hb => hv.lo b hb); rw [HN.out] at h1 ⊢; have HH1 := Lib.hid h1; clear h1 hv)
              | (go_at_call 71; (with_reducible refine (HLo.out W1 b1).mono ?_); rintro e W2 ⟨rfl, b2⟩; have h2 := HH1.out.past b2; have HH2 := Lib.hid h2; clear h2 HH1))
            have d2 := HH2.out.dx.hdr
            have e2 := d2.cell (k := 2) rfl
            have le := d2.lt
            have HD2 := Lib.hid d2
            clear d2
            obtain ⟨bb, cc, hv, lb, s0⟩ := RowI.at (show RowI W2 (.slice a 1 c) [p] from HH2.out.top) 0 (by simp)
            obtain ⟨rfl, rfl⟩ : a = some ⟨bb, 0, none⟩ ∧ c = cc := by { injection hv with h1 h2 h3; exact ⟨h1, h3⟩ }
            replace s0 : W2.cell? ⟨bb, 0, none⟩ = some (.int .i64 p) := s0
            have n1 : A.dp ≠ W2.heap.size := by omega
            have n1' : W2.heap.size ≠ A.dp := by omega
            have n2 : bb ≠ W2.heap.size := by omega
            have n2' : W2.heap.size ≠ bb := by omega
            go_region_held3 (fun w' => w'.cell? ⟨A.dp, 2, none⟩ = some (.pointer (some ⟨A.sp, 0, none⟩)) ∧ w'.cell? ⟨bb, 0, none⟩ = some (.int .i64 p)) (go_keep) (first
              | (go_at_call 22; (with_reducible refine (HKy.out W2.drew (b1.trans (b2.drew.mono b1.size))).mono ?_); rintro e W3 ⟨rfl, b3⟩; have q3 := (Below.refl W2.heap.size W2).drew.trans b3; have D3 := HD2.out.past q3; have y2 := D3.cell (k := 2) rfl; have yl := D3.lt; obtain ⟨bb3, cc3, hv3, l3, z0⟩ := RowI.at (show RowI W3 (.slice (some ⟨bb, 0, none⟩) 1 c) [p] from (HH2.out.past q3).top) 0 (by simp); obtain ⟨rfl, rfl⟩ : bb = bb3 ∧ c = cc3 := by { injection hv3 with h1 h2 h3; injection h1 with h1; injection h1 with h1; exact ⟨h1, h3⟩ }; replace z0 : W3.cell? ⟨bb, 0, none⟩ = some (.int .i64 p) := z0)
              | (go_at_call 22; (with_reducible refine (HKy.out (W2.alloc (.cells #[.int .i64 0, .int .i64 0, .int .i64 0] 54)).drew ((b1.trans (b2.mono b1.size)).trans ((bal W2 (.cells #[.int .i64 0, .int .i64 0, .int .i64 0] 54)).drew.mono (b1.trans (b2.mono b1.size)).size))).mono ?_); rintro e W3 ⟨rfl, b3⟩; have q3 := (bal W2 (.cells #[.int .i64 0, .int .i64 0, .int .i64 0] 54)).drew.trans (b3.mono (by simp)); have D3 := HD2.out.past q3; have y2 := D3.cell (k := 2) rfl; have yl := D3.lt; obtain ⟨bb3, cc3, hv3, l3, z0⟩ := RowI.at (show RowI W3 (.slice (some ⟨bb, 0, none⟩) 1 c) [p] from (HH2.out.past q3).top) 0 (by simp); obtain ⟨rfl, rfl⟩ : bb = bb3 ∧ c = cc3 := by { injection hv3 with h1 h2 h3; injection h1 with h1; injection h1 with h1; exact ⟨h1, h3⟩ }; replace z0 : W3.cell? ⟨bb, 0, none⟩ = some (.int .i64 p) := z0; have ZP := (Blk.new W2 54 [.int .i64 0, .int .i64 0, .int .i64 0]).drew.past b3; have zc0 := ZP.cell (k := 0) rfl; have zc1 := ZP.cell (k := 1) rfl; have zc2 := ZP.cell (k := 2) rfl; have zcf := fun j => ZP.free j; have zcl := ZP.lt))
            all_goals (first
              | (obtain ⟨P5, q5⟩ := set3 (.int .i64 kg) (.int .i64 1) (.int .i64 kr) ZP q3 (Nat.le_refl _)
                 have H5 := HH2.out.add q5 (box W2.heap.size 54 [.int .i64 kg, .int .i64 1, .int .i64 kr]) P5 (fun b e => Nat.le_of_eq e.symm)
                 obtain ⟨kb, hkb⟩ : ∃ t, W2.heap.size = t := ⟨_, rfl⟩
                 obtain ⟨W5, hW5⟩ : ∃ W', ((W3.setCell ⟨W2.heap.size, 0, none⟩ (.int .i64 kg)).setCell ⟨W2.heap.size, 1, none⟩ (.int .i64 1)).setCell ⟨W2.heap.size, 2, none⟩ (.int .i64 kr) = W' := ⟨_, rfl⟩
                 rw [hW5] at H5
                 rw [hkb] at H5
                 rw [hW5, hkb]
                 clear hW5 hkb q5 q3 b3 P5 ZP zc0 zc1 zc2 zcf zcl)
              | (have bn := bal W3 (.cells #[.int .i64 kg, .int .i64 1, .int .i64 kr] 54)
                 have P5 := Blk.new W3 54 [.int .i64 kg, .int .i64 1, .int .i64 kr]
                 have H5 := (HH2.out.past q3).add bn (box W3.heap.size 54 [.int .i64 kg, .int .i64 1, .int .i64 kr]) P5 (fun b e => Nat.le_of_eq e.symm)
                 obtain ⟨kb, hkb⟩ : ∃ t, W3.heap.size = t := ⟨_, rfl⟩
                 obtain ⟨W5, hW5⟩ : ∃ W', W3.alloc (.cells #[.int .i64 kg, .int .i64 1, .int .i64 kr] 54) = W' := ⟨_, rfl⟩
                 rw [hW5, hkb] at H5
                 rw [hW5, hkb]
                 clear hW5 hkb bn q3 b3 P5))
            all_goals
              clear D3 y2 yl l3 z0 n1 n1' n2 n2' e2 le lb s0 HH2
              have d5 := H5.dx.hdr
              have e2 := d5.cell (k := 2) rfl
              have le := d5.lt
              obtain ⟨bb5, cc5, hv5, l5, s0⟩ := RowI.at (show RowI W5 (.slice (some ⟨bb, 0, none⟩) 1 c) [p] from H5.top2) 0 (by simp)
              obtain ⟨rfl, rfl⟩ : bb = bb5 ∧ c = cc5 := by { injection hv5 with h1 h2 h3; injection h1 with h1; injection h1 with h1; exact ⟨h1, h3⟩ }
              replace s0 : W5.cell? ⟨bb, 0, none⟩ = some (.int .i64 p) := s0
              have hpa := parents_any H5.drew.sx p
              have HPa := Lib.hid hpa
              have HH5 := Lib.hid H5
              clear hpa H5 d5
              go_wp2_with fail
              go_region_held3 (fun w' => w'.cell? ⟨A.dp, 2, none⟩ = some (.pointer (some ⟨A.sp, 0, none⟩)) ∧ w'.cell? ⟨bb, 0, none⟩ = some (.int .i64 p)) (go_keep) (first
                | (go_at_call 107; (with_reducible refine HPa.out.mono ?_); rintro e W6 ⟨⟨v6, rfl, hr6⟩, b6⟩; obtain ⟨a6, c6, rfl⟩ := hr6.form; have h6 := HH5.out.drew.add b6 (ats (.slice a6 (stold G.s.ps 1 p).length c6) (stold G.s.ps 1 p)) (hr6.base (Nat.zero_le _)) (fun b hb => hr6.lo b hb); have g2 := h6.dx.hdr.cell (k := 2) rfl; have gl := h6.dx.hdr.lt; obtain ⟨bb6, cc6, hv6, l6, t0⟩ := RowI.at (show RowI W6 (.slice (some ⟨bb, 0, none⟩) 1 c) [p] from h6.tail.top2) 0 (by simp); obtain ⟨rfl, rfl⟩ : bb = bb6 ∧ c = cc6 := by { injection hv6 with h1 h2 h3; injection h1 with h1; injection h1 with h1; exact ⟨h1, h3⟩ }; replace t0 : W6.cell? ⟨bb, 0, none⟩ = some (.int .i64 p) := t0; have kc : Blk W6 kb 54 _ := h6.top2; have k1 := kc.cell (k := 1) rfl; have kl := kc.lt; have HH6 := Lib.hid h6; clear h6 hr6 kc))
              all_goals
                clear e2 le s0 HH5
                rw [HU.out] at HH6 ⊢
                obtain ⟨ub, uc, hvu, lu, u0, _⟩ := NewA.cell (show NewA 0 W6 (.slice a6 1 c6) [(u1, u2)] from HH6.out.top) 0 (by simp)
                obtain ⟨rfl, rfl⟩ : a6 = some ⟨ub, 0, none⟩ ∧ c6 = uc := by { injection hvu with h1 h2 h3; exact ⟨h1, h3⟩ }
                replace u0 : W6.cell? ⟨ub, 0, none⟩ = some (.int .i64 u1) := u0
                have hp2 := parents_any HH6.out.drew.sx u1
                have HP2 := Lib.hid hp2
                clear hp2 t0
                go_wp2_with fail
                go_region_held3 (fun w' => w'.cell? ⟨A.dp, 2, none⟩ = some (.pointer (some ⟨A.sp, 0, none⟩)) ∧ w'.cell? ⟨kb, 1, none⟩ = some (.int .i64 1) ∧ w'.cell? ⟨ub, 0, none⟩ = some (.int .i64 u1)) (go_keep) (first
                  | (go_at_call 107; (with_reducible refine HP2.out.mono ?_); rintro e W7 ⟨⟨v7, rfl, hr7⟩, b7⟩; obtain ⟨a7, c7, rfl⟩ := hr7.form; rw [HU2.out]; have h7 := HH6.out.drew.past b7; have g2 := h7.dx.hdr.cell (k := 2) rfl; have gl := h7.dx.hdr.lt; have kc : Blk W7 kb 54 _ := h7.top2; have k1 := kc.cell (k := 1) rfl; have kl := kc.lt; obtain ⟨ub7, uc7, hv7, lu7, v0, _⟩ := NewA.cell (show NewA 0 W7 (.slice (some ⟨ub, 0, none⟩) 1 c6) [(u1, u2)] from h7.top) 0 (by simp); obtain ⟨rfl, rfl⟩ : ub = ub7 ∧ c6 = uc7 := by { injection hv7 with h1 h2 h3; injection h1 with h1; injection h1 with h1; exact ⟨h1, h3⟩ }; replace v0 : W7.cell? ⟨ub, 0, none⟩ = some (.int .i64 u1) := v0; have HH7 := Lib.hid h7; clear h7 hr7 kc))
                all_goals go_wp2
                all_goals go_ret
                all_goals exact ⟨rfl, V, HH7.out.tail.tail.tail⟩
          · subst hu2
            have e : gloosen G g = (true, { G with loose := G.loose ++ [g] }) := by unfold gloosen; rw [hy]; rfl
            rw [e]
            obtain ⟨i0, hi, hz0, hz1, hz2⟩ := info_parts info_int
            obtain ⟨ln, hln⟩ : ∃ n, G.loose.length = n := ⟨_, rfl⟩
            rw [hln] at hl
            have HLn := Lib.hid hln
            have H1 := Lib.hid hi
            have HZ0 := Lib.hid hz0
            have HZ1 := Lib.hid hz1
            have HZ2 := Lib.hid hz2
            clear e hL hlb hlv hun hu hy hn H hun2 hln hi hz0 hz1 hz2
            go_enter Tryz.func54, Tryz.ntmps54
            go_wp2_with (first
              | (go_at_call 70; (with_reducible refine HOf.out.mono ?_); rintro e W1 ⟨⟨v, rfl, hv⟩, b1⟩; obtain ⟨a, c, rfl⟩ := hv.form; have h1 : HG w0 W1 A P V G (ints (.slice a [p].length c) [p] :: ts) := HH.out.add b1 _ hv.row (fun b hb => hv.lo b hb); rw [HN.out] at h1 ⊢; have HH1 := Lib.hid h1; clear h1 hv)
              | (go_at_call 71; (with_reducible refine (HLo.out W1 b1).mono ?_); rintro e W2 ⟨rfl, b2⟩; have h2 := HH1.out.past b2; have HH2 := Lib.hid h2; clear h2 HH1))
            have d2 := HH2.out.dx.hdr
            have e2 := d2.cell (k := 2) rfl
            have le := d2.lt
            have HD2 := Lib.hid d2
            clear d2
            obtain ⟨bb, cc, hv, lb, s0⟩ := RowI.at (show RowI W2 (.slice a 1 c) [p] from HH2.out.top) 0 (by simp)
            obtain ⟨rfl, rfl⟩ : a = some ⟨bb, 0, none⟩ ∧ c = cc := by { injection hv with h1 h2 h3; exact ⟨h1, h3⟩ }
            replace s0 : W2.cell? ⟨bb, 0, none⟩ = some (.int .i64 p) := s0
            have n1 : A.dp ≠ W2.heap.size := by omega
            have n1' : W2.heap.size ≠ A.dp := by omega
            have n2 : bb ≠ W2.heap.size := by omega
            have n2' : W2.heap.size ≠ bb := by omega
            go_region_held3 (fun w' => w'.cell? ⟨A.dp, 2, none⟩ = some (.pointer (some ⟨A.sp, 0, none⟩)) ∧ w'.cell? ⟨bb, 0, none⟩ = some (.int .i64 p)) (go_keep) (first
              | (go_at_call 22; (with_reducible refine (HKy.out W2.drew (b1.trans (b2.drew.mono b1.size))).mono ?_); rintro e W3 ⟨rfl, b3⟩; have q3 := (Below.refl W2.heap.size W2).drew.trans b3; have D3 := HD2.out.past q3; have y2 := D3.cell (k := 2) rfl; have yl := D3.lt; obtain ⟨bb3, cc3, hv3, l3, z0⟩ := RowI.at (show RowI W3 (.slice (some ⟨bb, 0, none⟩) 1 c) [p] from (HH2.out.past q3).top) 0 (by simp); obtain ⟨rfl, rfl⟩ : bb = bb3 ∧ c = cc3 := by { injection hv3 with h1 h2 h3; injection h1 with h1; injection h1 with h1; exact ⟨h1, h3⟩ }; replace z0 : W3.cell? ⟨bb, 0, none⟩ = some (.int .i64 p) := z0)
              | (go_at_call 22; (with_reducible refine (HKy.out (W2.alloc (.cells #[.int .i64 0, .int .i64 0, .int .i64 0] 54)).drew ((b1.trans (b2.mono b1.size)).trans ((bal W2 (.cells #[.int .i64 0, .int .i64 0, .int .i64 0] 54)).drew.mono (b1.trans (b2.mono b1.size)).size))).mono ?_); rintro e W3 ⟨rfl, b3⟩; have q3 := (bal W2 (.cells #[.int .i64 0, .int .i64 0, .int .i64 0] 54)).drew.trans (b3.mono (by simp)); have D3 := HD2.out.past q3; have y2 := D3.cell (k := 2) rfl; have yl := D3.lt; obtain ⟨bb3, cc3, hv3, l3, z0⟩ := RowI.at (show RowI W3 (.slice (some ⟨bb, 0, none⟩) 1 c) [p] from (HH2.out.past q3).top) 0 (by simp); obtain ⟨rfl, rfl⟩ : bb = bb3 ∧ c = cc3 := by { injection hv3 with h1 h2 h3; injection h1 with h1; injection h1 with h1; exact ⟨h1, h3⟩ }; replace z0 : W3.cell? ⟨bb, 0, none⟩ = some (.int .i64 p) := z0; have ZP := (Blk.new W2 54 [.int .i64 0, .int .i64 0, .int .i64 0]).drew.past b3; have zc0 := ZP.cell (k := 0) rfl; have zc1 := ZP.cell (k := 1) rfl; have zc2 := ZP.cell (k := 2) rfl; have zcf := fun j => ZP.free j; have zcl := ZP.lt))
            all_goals (first
              | (obtain ⟨P5, q5⟩ := set3 (.int .i64 kg) (.int .i64 1) (.int .i64 kr) ZP q3 (Nat.le_refl _)
                 have H5 := HH2.out.add q5 (box W2.heap.size 54 [.int .i64 kg, .int .i64 1, .int .i64 kr]) P5 (fun b e => Nat.le_of_eq e.symm)
                 obtain ⟨kb, hkb⟩ : ∃ t, W2.heap.size = t := ⟨_, rfl⟩
                 obtain ⟨W5, hW5⟩ : ∃ W', ((W3.setCell ⟨W2.heap.size, 0, none⟩ (.int .i64 kg)).setCell ⟨W2.heap.size, 1, none⟩ (.int .i64 1)).setCell ⟨W2.heap.size, 2, none⟩ (.int .i64 kr) = W' := ⟨_, rfl⟩
                 rw [hW5] at H5
                 rw [hkb] at H5
                 rw [hW5, hkb]
                 clear hW5 hkb q5 q3 b3 P5 ZP zc0 zc1 zc2 zcf zcl)
              | (have bn := bal W3 (.cells #[.int .i64 kg, .int .i64 1, .int .i64 kr] 54)
                 have P5 := Blk.new W3 54 [.int .i64 kg, .int .i64 1, .int .i64 kr]
                 have H5 := (HH2.out.past q3).add bn (box W3.heap.size 54 [.int .i64 kg, .int .i64 1, .int .i64 kr]) P5 (fun b e => Nat.le_of_eq e.symm)
                 obtain ⟨kb, hkb⟩ : ∃ t, W3.heap.size = t := ⟨_, rfl⟩
                 obtain ⟨W5, hW5⟩ : ∃ W', W3.alloc (.cells #[.int .i64 kg, .int .i64 1, .int .i64 kr] 54) = W' := ⟨_, rfl⟩
                 rw [hW5, hkb] at H5
                 rw [hW5, hkb]
                 clear hW5 hkb bn q3 b3 P5))
            all_goals
              clear D3 y2 yl l3 z0 n1 n1' n2 n2' e2 le lb s0 HH2
              have d5 := H5.dx.hdr
              have e2 := d5.cell (k := 2) rfl
              have le := d5.lt
              obtain ⟨bb5, cc5, hv5, l5, s0⟩ := RowI.at (show RowI W5 (.slice (some ⟨bb, 0, none⟩) 1 c) [p] from H5.top2) 0 (by simp)
              obtain ⟨rfl, rfl⟩ : bb = bb5 ∧ c = cc5 := by { injection hv5 with h1 h2 h3; injection h1 with h1; injection h1 with h1; exact ⟨h1, h3⟩ }
              replace s0 : W5.cell? ⟨bb, 0, none⟩ = some (.int .i64 p) := s0
              have hpa := parents_any H5.drew.sx p
              have HPa := Lib.hid hpa
              have HH5 := Lib.hid H5
              clear hpa H5 d5
              go_wp2_with fail
              go_region_held3 (fun w' => w'.cell? ⟨A.dp, 2, none⟩ = some (.pointer (some ⟨A.sp, 0, none⟩)) ∧ w'.cell? ⟨bb, 0, none⟩ = some (.int .i64 p)) (go_keep) (first
                | (go_at_call 107; (with_reducible refine HPa.out.mono ?_); rintro e W6 ⟨⟨v6, rfl, hr6⟩, b6⟩; obtain ⟨a6, c6, rfl⟩ := hr6.form; have h6 := HH5.out.drew.add b6 (ats (.slice a6 (stold G.s.ps 1 p).length c6) (stold G.s.ps 1 p)) (hr6.base (Nat.zero_le _)) (fun b hb => hr6.lo b hb); have g2 := h6.dx.hdr.cell (k := 2) rfl; have gl := h6.dx.hdr.lt; obtain ⟨bb6, cc6, hv6, l6, t0⟩ := RowI.at (show RowI W6 (.slice (some ⟨bb, 0, none⟩) 1 c) [p] from h6.tail.top2) 0 (by simp); obtain ⟨rfl, rfl⟩ : bb = bb6 ∧ c = cc6 := by { injection hv6 with h1 h2 h3; injection h1 with h1; injection h1 with h1; exact ⟨h1, h3⟩ }; replace t0 : W6.cell? ⟨bb, 0, none⟩ = some (.int .i64 p) := t0; have kc : Blk W6 kb 54 _ := h6.top2; have k1 := kc.cell (k := 1) rfl; have kl := kc.lt; have HH6 := Lib.hid h6; clear h6 hr6 kc))
              all_goals
                clear e2 le s0 HH5
                rw [HU.out] at HH6 ⊢
                obtain ⟨ub, uc, hvu, lu, u0, _⟩ := NewA.cell (show NewA 0 W6 (.slice a6 1 c6) [(u1, u2)] from HH6.out.top) 0 (by simp)
                obtain ⟨rfl, rfl⟩ : a6 = some ⟨ub, 0, none⟩ ∧ c6 = uc := by { injection hvu with h1 h2 h3; exact ⟨h1, h3⟩ }
                replace u0 : W6.cell? ⟨ub, 0, none⟩ = some (.int .i64 u1) := u0
                have hp2 := parents_any HH6.out.drew.sx u1
                have HP2 := Lib.hid hp2
                clear hp2 t0
                go_wp2_with fail
                go_region_held3 (fun w' => w'.cell? ⟨A.dp, 2, none⟩ = some (.pointer (some ⟨A.sp, 0, none⟩)) ∧ w'.cell? ⟨kb, 1, none⟩ = some (.int .i64 1) ∧ w'.cell? ⟨ub, 0, none⟩ = some (.int .i64 u1)) (go_keep) (first
                  | (go_at_call 107; (with_reducible refine HP2.out.mono ?_); rintro e W7 ⟨⟨v7, rfl, hr7⟩, b7⟩; obtain ⟨a7, c7, rfl⟩ := hr7.form; rw [HU2.out]; have h7 := HH6.out.drew.past b7; have g2 := h7.dx.hdr.cell (k := 2) rfl; have gl := h7.dx.hdr.lt; have kc : Blk W7 kb 54 _ := h7.top2; have k1 := kc.cell (k := 1) rfl; have kl := kc.lt; obtain ⟨ub7, uc7, hv7, lu7, v0, _⟩ := NewA.cell (show NewA 0 W7 (.slice (some ⟨ub, 0, none⟩) 1 c6) [(u1, u2)] from h7.top) 0 (by simp); obtain ⟨rfl, rfl⟩ : ub = ub7 ∧ c6 = uc7 := by { injection hv7 with h1 h2 h3; injection h1 with h1; injection h1 with h1; exact ⟨h1, h3⟩ }; replace v0 : W7.cell? ⟨ub, 0, none⟩ = some (.int .i64 u1) := v0; have HH7 := Lib.hid h7; clear h7 hr7 kc))
                all_goals
                  have dx7 := HH7.out.dx
                  have f4 := dx7.hdr.cell (k := 4) rfl
                  have hone := dx7.row.one
                  have HDx := Lib.hid dx7
                  clear dx7 k1 kl v0 lu7 g2 u0 lu
                  go_wp2_with (at_builtin; refine wpList_append_own_at _ rfl _ _ 43 rfl 0 3 i0 _ 1 8 Tryz.underlying43 H1.out HZ0.out HZ1.out HZ2.out rfl (by decide) _ _ _ rfl (World.ownsRow.alloc (show W7.ownsRow 0 3 1 V.u ln (G.loose.map valI) from HLn.out ▸ HDx.out.row) _) ⟨W7.heap.size, 0, none⟩ 1 1 [.int .i64 g] rfl rfl (cell_one_new _ _ _) (fun x hx => by simp at hx; subst hx; rfl) (by unfold maxLen; omega) (by omega) (by simp) ?_; intro v' w3 hown' hgrow3 hnil3 hat3; obtain ⟨g', cap', rfl⟩ := ownsRow_succ hown'; have HO3 := Lib.hid hown'; have HG3 := Lib.hid hgrow3; have HA3 := Lib.hid hat3; have P3 := (HDx.out.hdr.alloc (.cells #[.int .i64 g] 3)).grownRow (World.ownsRow.alloc (show W7.ownsRow 0 3 1 V.u ln (G.loose.map valI) from HLn.out ▸ HDx.out.row) _) (by decide) hgrow3; have p34 := P3.cell (k := 4) rfl; have p3f := fun k => P3.free k; have p3l := P3.lt; have HP3 := Lib.hid P3; clear hown' hgrow3 hnil3 hat3 P3)
                  go_ret
                  refine ⟨rfl, { V with u := .slice (some ⟨g', 0, none⟩) (ln + 1) cap' }, ?_⟩
                  have h := nrow_setO HO3.out HP3.out (by decide) 4 (.slice (some ⟨g', 0, none⟩) (ln + 1) cap')
                  have hr : RowI (w3.setCell ⟨A.dp, 4, none⟩ (.slice (some ⟨g', 0, none⟩) (ln + 1) cap')) (.slice (some ⟨g', 0, none⟩) (ln + 1) cap') (G.loose ++ [g]) := by
                    show World.ownsRow _ 0 3 1 _ (G.loose ++ [g]).length ((G.loose ++ [g]).map valI)
                    rw [List.length_append, HLn.out, List.map_append]
                    exact h
                  have hk : Kept W7.heap.size (fun k => k = A.dp ∨ V.u.ownBlock = some k) W7 (w3.setCell ⟨A.dp, 4, none⟩ (.slice (some ⟨g', 0, none⟩) (ln + 1) cap')) := by
                    have hg := HG3.out
                    have hk0 : Kept W7.heap.size (fun k => k = A.dp ∨ V.u.ownBlock = some k) W7 w3 := ⟨hg.os, hg.tape, hg.output, Nat.le_trans (by simp) hg.size, fun k hk hs => (hg.block k (by simp; omega) (fun e => hs (.inr e.symm))).trans (Below.heap_alloc _ _ _ hk)⟩
                    exact Kept.setCell (p := ⟨A.dp, 4, none⟩) hk0 (.inl (.inl rfl)) _
                  have ho : OwnN W7 V.u (.slice (some ⟨g', 0, none⟩) (ln + 1) cap') := by
                    rcases HA3.out with h | h
                    · exact .inl h
                    · exact .inr fun k hk => by rw [h] at hk; cases hk; rw [World.size_alloc]; omega
                  exact (HH7.out.setLoose _ (G.loose ++ [g]) ⟨HP3.out.set 4 _, hr⟩ hk ho).tail.tail.tail
end Go.Proofs.YtglohconhbcchaaGreatDoor
