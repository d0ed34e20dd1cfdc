/- errors.As at the walk's own error: a copy of it is laid into the target. -/
import Derived.Test.YtgaififhhffpfaaDoorRight
import Derived.LaidEql
import Derived.Stop.Asserts
import Derived.RowKitTokens
namespace Go.Proofs.YtgaififhhffpfaaDoor
open Go.RowKit Go.Extern.Stop Go.Stop Go.Extern

theorem as_nil (t : Value) (w : World) :
    Calls Tryd.prog 41 #[.nilIface, t] w fun e w' => e = .returned (.bool false) ∧ w = w' := by
  go_enter Tryd.func41, Tryd.ntmps41
  go_wp2
  go_ret
  exact ⟨rfl, rfl⟩

theorem ea_valueOfP (t : Addr) (w : World) : (ReflectliteValue.unpack (.iface 105 (.pointer (some t)))).run Tryd.prog w
    = .ok (.agg #[.pointer (some ⟨1, 105, none⟩), .pointer (some ⟨w.heap.size, 0, none⟩), .int .u64 150]) (w.alloc (.cells #[.pointer (some t)] 105)) := by kernel_rfl
theorem ea_typeP (a : Addr) (w : World) : (ReflectliteValue.methodAny (ReflectliteValue.valueError "reflectlite.Value.Type" 0) (fun t _ _ _ => ReflectliteType.toType t) #[.agg #[.pointer (some ⟨1, 105, none⟩), .pointer (some a), .int .u64 150]]).run Tryd.prog w
    = .ok (.iface 177 (.agg #[.pointer (some ⟨1, 105, none⟩)])) w := by kernel_rfl
theorem ea_kindP (w : World) : ((ReflectliteType.abiMethod fun t => (fun a : Nat => Value.int IntKind.u8 (a : Int)) <$> Rtype.kind t) #[.pointer (some ⟨1, 105, none⟩)]).run Tryd.prog w = .ok (.int .u8 22) w := by kernel_rfl
theorem ea_kindS (w : World) : ((ReflectliteType.abiMethod fun t => (fun a : Nat => Value.int IntKind.u8 (a : Int)) <$> Rtype.kind t) #[.pointer (some ⟨1, 103, none⟩)]).run Tryd.prog w = .ok (.int .u8 25) w := by kernel_rfl
theorem ea_rlm (z : Sem Value) (f : TypeId → Addr → Nat → Nat → Sem Value) (v : Value) :
    ReflectliteValue.method z f #[v] = (do match ← ReflectliteValue.parts v with | none => z | some (t, a, fl) => f t a fl (fl % 32)) := rfl
theorem ea_partsP (a : Addr) (w : World) : (ReflectliteValue.parts (.agg #[.pointer (some ⟨1, 105, none⟩), .pointer (some a), .int .u64 150])).run Tryd.prog w = .ok (some (105, a, 150)) w := by kernel_rfl
theorem ea_isNilP (a p : Addr) (W : World) (ha : W.cell? a = some (.pointer (some p))) :
    (ReflectliteValue.method (ReflectliteValue.valueError "reflectlite.Value.IsNil" 0) ReflectliteValue.isNil #[.agg #[.pointer (some ⟨1, 105, none⟩), .pointer (some a), .int .u64 150]]).run Tryd.prog W = .ok (.bool false) W := by
  rw [ea_rlm]
  simp only [Sem.run_bind, ea_partsP, Result.andThen]
  simp [ReflectliteValue.isNil, loadVar, isAgg, underlying, Tryd.underlying105, ha, Result.andThen]
theorem ea_methodKind (h : Value) (w : World) : (Go.method 188 177 (.agg #[h]) "Kind").run Tryd.prog w = .ok (112, h) w := by kernel_rfl
theorem ea_elemP (w : World) : (ReflectliteType.method ReflectliteType.elem #[.agg #[.pointer (some ⟨1, 105, none⟩)]]).run Tryd.prog w = .ok (.iface 177 (.agg #[.pointer (some ⟨1, 103, none⟩)])) w := by kernel_rfl
theorem ea_implements (w : World) : (ReflectliteType.relation "Implements" ReflectliteType.implements_ #[.agg #[.pointer (some ⟨1, 103, none⟩)], .iface 177 (.agg #[.pointer (some ⟨1, 99, none⟩)])]).run Tryd.prog w = .ok (.bool true) w := by kernel_rfl
theorem ea_typeOf (v : Value) (w : World) : (ReflectliteType.typeOf #[.iface 103 v]).run Tryd.prog w = .ok (.iface 177 (.agg #[.pointer (some ⟨1, 103, none⟩)])) w := by kernel_rfl
theorem ea_assignable (w : World) : (ReflectliteType.relation "AssignableTo" ReflectliteType.assignableTo #[.agg #[.pointer (some ⟨1, 103, none⟩)], .iface 177 (.agg #[.pointer (some ⟨1, 103, none⟩)])]).run Tryd.prog w = .ok (.bool true) w := by kernel_rfl
theorem ea_valueOfS (h c : Int) (w : World) : (ReflectliteValue.unpack (.iface 103 (.agg #[.int .i64 h, .int .i64 c]))).run Tryd.prog w
    = .ok (.agg #[.pointer (some ⟨1, 103, none⟩), .pointer (some ⟨w.heap.size, 0, none⟩), .int .u64 153]) (w.alloc (.cells #[.int .i64 h, .int .i64 c] 103)) := by kernel_rfl
theorem ea_elemOfP (w : World) : (Rtype.elem? 105).run Tryd.prog w = .ok (some 103) w := by kernel_rfl
theorem ea_mkS (p : Addr) (w : World) : (ReflectliteValue.mk 103 p ReflectliteValue.flagAddr).run Tryd.prog w = .ok (.agg #[.pointer (some ⟨1, 103, none⟩), .pointer (some p), .int .u64 409]) w := by kernel_rfl
theorem ea_elemVP (a p : Addr) (W : World) (ha : W.cell? a = some (.pointer (some p))) :
    (ReflectliteValue.method (ReflectliteValue.valueError "reflectlite.Value.Elem" 0) ReflectliteValue.elem #[.agg #[.pointer (some ⟨1, 105, none⟩), .pointer (some a), .int .u64 150]]).run Tryd.prog W
      = .ok (.agg #[.pointer (some ⟨1, 103, none⟩), .pointer (some p), .int .u64 409]) W := by
  rw [ea_rlm]
  simp only [Sem.run_bind, ea_partsP, Result.andThen]
  simp [ReflectliteValue.elem, loadVar, isAgg, underlying, Tryd.underlying105, ha, Result.andThen, ea_elemOfP, ea_mkS]
theorem ea_rls (v x : Value) : ReflectliteValue.set #[v, x] = (do
    let (some (dst, a, fl), some (src, b, _)) := (← ReflectliteValue.parts v, ← ReflectliteValue.parts x)
      | unsupported (.noEntry "extern/(internal/reflectlite.Value).Set.zeroValue")
    if fl / ReflectliteValue.flagAddr % 2 == 0 then unsupported (.noEntry "extern/(internal/reflectlite.Value).Set.unaddressable")
    let val ← loadVar src b
    if ← Rtype.directlyAssignable dst src then storeVar dst a val
    else if ← Rtype.implements dst src then
      if (← Rtype.kind src) == 20 then
        match val with
        | .nilIface => unsupported (.noEntry "extern/reflectlite: a nil value of one interface type handed on as a value of another")
        | _ => storeVar dst a val
      else storeVar dst a (.iface src val)
    else panicString ("reflectlite.Set: value of type " ++ (← Rtype.spelt src) ++ " is not assignable to type " ++ (← Rtype.spelt dst))
    pure (.tuple #[])) := rfl
theorem ea_partsSa (a : Addr) (w : World) : (ReflectliteValue.parts (.agg #[.pointer (some ⟨1, 103, none⟩), .pointer (some a), .int .u64 409])).run Tryd.prog w = .ok (some (103, a, 409)) w := by kernel_rfl
theorem ea_partsS (a : Addr) (w : World) : (ReflectliteValue.parts (.agg #[.pointer (some ⟨1, 103, none⟩), .pointer (some a), .int .u64 153])).run Tryd.prog w = .ok (some (103, a, 153)) w := by kernel_rfl
theorem ea_direct (w : World) : (Rtype.directlyAssignable 103 103).run Tryd.prog w = .ok true w := by kernel_rfl

theorem ea_set (ta b : Nat) (h c : Int) (o1 o2 : Value) (W : World) (hb : Blk W b 103 [.int .i64 h, .int .i64 c]) (ht : Blk W ta 103 [o1, o2]) :
    (ReflectliteValue.set #[.agg #[.pointer (some ⟨1, 103, none⟩), .pointer (some ⟨ta, 0, none⟩), .int .u64 409], .agg #[.pointer (some ⟨1, 103, none⟩), .pointer (some ⟨b, 0, none⟩), .int .u64 153]]).run Tryd.prog W
      = .ok (.tuple #[]) ((W.setCell ⟨ta, 0, none⟩ (.int .i64 h)).setCell ⟨ta, 1, none⟩ (.int .i64 c)) := by
  have b0 := hb.cell (k := 0) rfl
  have b1 := hb.cell (k := 1) rfl
  have t0 := ht.cell (k := 0) rfl
  have t1 := ht.cell (k := 1) rfl
  have f0 := ht.free 0
  have f1 := ht.free 1
  rw [ea_rls]
  simp only [Sem.run_bind, ea_partsSa, ea_partsS, Result.andThen]
  simp [ReflectliteValue.flagAddr, loadVar, isAgg, underlying, Tryd.underlying103, Result.andThen, ea_direct, storeVar, Value.cells, storeCells, Addr.add, go_sem, b0, b1]
  simp [t0, f0, t1, f1, go_sem]

set_option maxHeartbeats 4000000 in
theorem as_hit (h c : Int) (t : Nat) (o1 o2 : Value) (w : World) (hg : w.cell? ⟨0, 0, none⟩ = some (.iface 177 (.agg #[.pointer (some ⟨1, 99, none⟩)]))) (ht : Blk w t 103 [o1, o2]) :
    Calls Tryd.prog 41 #[.iface 103 (.agg #[.int .i64 h, .int .i64 c]), .iface 105 (.pointer (some ⟨t, 0, none⟩))] w
      fun ev w' => ev = .returned (.bool true) ∧ Blk w' t 103 [.int .i64 h, .int .i64 c] ∧ Kept w.heap.size (fun k => k = t) w w' := by
  have x0 := @run_callFunc_extern Tryd.prog 69 _ (fun args => ReflectliteValue.unpack (args.getD 0 (.tuple #[]))) Tryd.func69 (by kernel_rfl) (by kernel_rfl) (by kernel_rfl) (by kernel_rfl)
  have x1 := @run_callFunc_extern Tryd.prog 70 _ (ReflectliteValue.methodAny (ReflectliteValue.valueError "reflectlite.Value.Type" 0) (fun t _ _ _ => ReflectliteType.toType t)) Tryd.func70 (by kernel_rfl) (by kernel_rfl) (by kernel_rfl) (by kernel_rfl)
  have x2 := @run_callFunc_extern Tryd.prog 71 _ (ReflectliteValue.method (ReflectliteValue.valueError "reflectlite.Value.IsNil" 0) ReflectliteValue.isNil) Tryd.func71 (by kernel_rfl) (by kernel_rfl) (by kernel_rfl) (by kernel_rfl)
  have x3 := @run_callFunc_extern Tryd.prog 112 _ (ReflectliteType.abiMethod fun t => do pure (.int .u8 (← Rtype.kind t))) Tryd.func112 (by kernel_rfl) (by kernel_rfl) (by kernel_rfl) (by kernel_rfl)
  have x4 := @run_callFunc_extern Tryd.prog 125 _ (ReflectliteType.method ReflectliteType.elem) Tryd.func125 (by kernel_rfl) (by kernel_rfl) (by kernel_rfl) (by kernel_rfl)
  have x5 := @run_callFunc_extern Tryd.prog 126 _ (ReflectliteType.relation "Implements" ReflectliteType.implements_) Tryd.func126 (by kernel_rfl) (by kernel_rfl) (by kernel_rfl) (by kernel_rfl)
  have x6 := @run_callFunc_extern Tryd.prog 91 _ ReflectliteType.typeOf Tryd.func91 (by kernel_rfl) (by kernel_rfl) (by kernel_rfl) (by kernel_rfl)
  have x7 := @run_callFunc_extern Tryd.prog 123 _ (ReflectliteType.relation "AssignableTo" ReflectliteType.assignableTo) Tryd.func123 (by kernel_rfl) (by kernel_rfl) (by kernel_rfl) (by kernel_rfl)
  have x8 := @run_callFunc_extern Tryd.prog 92 _ (ReflectliteValue.method (ReflectliteValue.valueError "reflectlite.Value.Elem" 0) ReflectliteValue.elem) Tryd.func92 (by kernel_rfl) (by kernel_rfl) (by kernel_rfl) (by kernel_rfl)
  have x9 := @run_callFunc_extern Tryd.prog 93 _ ReflectliteValue.set Tryd.func93 (by kernel_rfl) (by kernel_rfl) (by kernel_rfl) (by kernel_rfl)
  have y0 := ea_valueOfP
  have y1 := ea_typeP
  have y2 := ea_kindP
  have y3 := ea_kindS
  have y4 := ea_elemP
  have y5 := ea_implements
  have y6 := ea_typeOf
  have y7 := ea_assignable
  have y8 := ea_valueOfS
  have n8 := ea_isNilP ⟨w.heap.size, 0, none⟩ ⟨t, 0, none⟩ ((w.alloc (.cells #[.pointer (some ⟨t, 0, none⟩)] 105)).alloc (.cells #[.pointer (some ⟨1, 105, none⟩), .pointer (some ⟨w.heap.size, 0, none⟩), .int .u64 150] 149)) (by simp)
  have hlt : 0 < w.heap.size := lt_of_cell hg
  have hg2 : ((w.alloc (.cells #[.pointer (some ⟨t, 0, none⟩)] 105)).alloc (.cells #[.pointer (some ⟨1, 105, none⟩), .pointer (some ⟨w.heap.size, 0, none⟩), .int .u64 150] 149)).cell? ⟨0, 0, none⟩ = some (.iface 177 (.agg #[.pointer (some ⟨1, 99, none⟩)])) := by
    rw [World.cell?_alloc_lt _ _ ⟨0, 0, none⟩ (by simp), World.cell?_alloc_lt _ _ ⟨0, 0, none⟩ hlt]; exact hg
  have el := ea_elemVP ⟨w.heap.size, 0, none⟩ ⟨t, 0, none⟩ (((w.alloc (.cells #[.pointer (some ⟨t, 0, none⟩)] 105)).alloc (.cells #[.pointer (some ⟨1, 105, none⟩), .pointer (some ⟨w.heap.size, 0, none⟩), .int .u64 150] 149)).alloc (.cells #[.pointer (some ⟨1, 105, none⟩), .pointer (some ⟨w.heap.size, 0, none⟩), .int .u64 150] 149)) (by rw [World.cell?_alloc_lt _ _ ⟨w.heap.size, 0, none⟩ (by simp; omega)]; simp)
  have ht3 := (((ht.alloc (.cells #[.pointer (some ⟨t, 0, none⟩)] 105)).alloc (.cells #[.pointer (some ⟨1, 105, none⟩), .pointer (some ⟨w.heap.size, 0, none⟩), .int .u64 150] 149)).alloc (.cells #[.pointer (some ⟨1, 105, none⟩), .pointer (some ⟨w.heap.size, 0, none⟩), .int .u64 150] 149)).alloc (.cells #[.int .i64 h, .int .i64 c] 103)
  have hb3 := Blk.new (((w.alloc (.cells #[.pointer (some ⟨t, 0, none⟩)] 105)).alloc (.cells #[.pointer (some ⟨1, 105, none⟩), .pointer (some ⟨w.heap.size, 0, none⟩), .int .u64 150] 149)).alloc (.cells #[.pointer (some ⟨1, 105, none⟩), .pointer (some ⟨w.heap.size, 0, none⟩), .int .u64 150] 149)) 103 [.int .i64 h, .int .i64 c]
  simp only [World.size_alloc] at hb3
  have st := ea_set t (w.heap.size + 1 + 1 + 1) h c o1 o2 _ hb3 ht3
  have HT := Lib.hid ht3
  have HL := ht.lt
  clear ht3 hb3 ht hg
  go_enter Tryd.func41, Tryd.ntmps41
  go_wp2
  refine wp_loop_rounds 1 ?_
  rw [rounds_succ]
  go_wp2
  go_ret
  refine ⟨rfl, (HT.out.set 0 _).set 1 _, ?_⟩
  exact (((((((Kept.refl w.heap.size (fun k => k = t) w).alloc (Nat.le_refl _) _).alloc (by simp) _).alloc (by simp; omega) _).alloc (by simp; omega) _).setCell (p := ⟨t, 0, none⟩) (.inl rfl) _).setCell (p := ⟨t, 1, none⟩) (.inl rfl) _)
end Go.Proofs.YtgaififhhffpfaaDoor
