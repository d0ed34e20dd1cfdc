/- right.Meet of two, right.All. -/
import Derived.Test.YtgaififhhffpfaaGreatDoorRight
namespace Go.Proofs.YtgaififhhffpfaaGreatDoor
open Go.RowKit

theorem all_any (w : World) : Calls Tryz.prog 112 #[] w fun e w' => e = .returned (.agg #[.bool true, .bool true, .bool true]) ∧ Below w.heap.size w w' := by
  go_enter Tryz.func112, Tryz.ntmps112
  go_wp2
  refine bodyPost_ret (v := .agg #[.bool true, .bool true, .bool true]) (by simp [results, Tryz.results112, go_sem]) rfl ⟨rfl, ?_⟩
  go_grown

theorem of_open (w : World) (e : Pte) :
    Calls Tryz.prog 115 #[.agg #[.bool e.p, .bool e.w, .bool e.u, .bool e.a, .bool e.d, .bool e.ps, .bool e.nx, .bool e.bad, .int .i64 (e.f : Int)]] w
      fun r w' => r = .returned (.agg #[.bool e.w, .bool e.u, .bool (!e.nx)]) ∧ Below w.heap.size w w' := of_any w e

set_option maxRecDepth 100000 in
set_option maxHeartbeats 1000000 in
theorem meet2_any (w : World) (b cap : Nat) (a c : Rt) (hb : Blk w b 40 [.bool a.w, .bool a.u, .bool a.x, .bool c.w, .bool c.u, .bool c.x]) :
    Calls Tryz.prog 114 #[.slice (some ⟨b, 0, none⟩) 2 cap] w
      fun r w' => r = .returned (.agg #[.bool (a.w && c.w), .bool (a.u && c.u), .bool (a.x && c.x)]) ∧ Below w.heap.size w w' := by
  have c0 := hb.cell (k := 0) rfl
  have c1 := hb.cell (k := 1) rfl
  have c2 := hb.cell (k := 2) rfl
  have c3 := hb.cell (k := 3) rfl
  have c4 := hb.cell (k := 4) rfl
  have c5 := hb.cell (k := 5) rfl
  have lt := hb.lt
  have lt1 : b < w.heap.size + 1 := by omega
  have lt2 : b < w.heap.size + 1 + 1 := by omega
  have lt3 : b < w.heap.size + 1 + 1 + 1 := by omega
  have lt4 : b < w.heap.size + 1 + 1 + 1 + 1 := by omega
  have lt5 : b < w.heap.size + 1 + 1 + 1 + 1 + 1 := by omega
  clear hb
  obtain ⟨aw, au, ax⟩ := a
  obtain ⟨cw, cu, cx⟩ := c
  dsimp only at *
  obtain ⟨v, hv⟩ : ∃ v, Value.agg #[.bool (aw && cw), .bool (au && cu), .bool (ax && cx)] = v := ⟨_, rfl⟩
  rw [hv]
  have HV := Lib.hid hv
  clear hv
  cases aw <;> cases au <;> cases ax <;>
  · go_enter Tryz.func114, Tryz.ntmps114
    go_wp2
    go_rounds 3
    go_wp2
    refine bodyPost_ret (v := v) (by rw [← HV.out]; simp [results, Tryz.results114, go_sem]) rfl ⟨rfl, ?_⟩
    go_grown
end Go.Proofs.YtgaififhhffpfaaGreatDoor
