/- errors.As at the walk's own error: a copy of it is laid into the target. -/
import Derived.Test.YtgaififhhffpfaaGreatDoorRight
import Derived.LaidEql
import Derived.Stop.Asserts
import Derived.RowKitTokens
namespace Go.Proofs.YtgaififhhffpfaaGreatDoor
open Go.RowKit Go.Extern.Stop Go.Stop Go.Extern

theorem as_nil (t : Value) (w : World) :
    Calls Tryz.prog 62 #[.nilIface, t] w fun e w' => e = .returned (.bool false) ∧ w = w' := by
  go_enter Tryz.func62, Tryz.ntmps62
  go_wp2
  go_ret
  exact ⟨rfl, rfl⟩

theorem ea_valueOfP (t : Addr) (w : World) : (ReflectliteValue.unpack (.iface 116 (.pointer (some t)))).run Tryz.prog w
    = .ok (.agg #[.pointer (some ⟨1, 116, none⟩), .pointer (some ⟨w.heap.size, 0, none⟩), .int .u64 150]) (w.alloc (.cells #[.pointer (some t)] 116)) := by kernel_rfl
theorem ea_typeP (a : Addr) (w : World) : (ReflectliteValue.methodAny (ReflectliteValue.valueError "reflectlite.Value.Type" 0) (fun t _ _ _ => ReflectliteType.toType t) #[.agg #[.pointer (some ⟨1, 116, none⟩), .pointer (some a), .int .u64 150]]).run Tryz.prog w
    = .ok (.iface 225 (.agg #[.pointer (some ⟨1, 116, none⟩)])) w := by kernel_rfl
theorem ea_kindP (w : World) : ((ReflectliteType.abiMethod fun t => (fun a : Nat => Value.int IntKind.u8 (a : Int)) <$> Rtype.kind t) #[.pointer (some ⟨1, 116, none⟩)]).run Tryz.prog w = .ok (.int .u8 22) w := by kernel_rfl
theorem ea_kindS (w : World) : ((ReflectliteType.abiMethod fun t => (fun a : Nat => Value.int IntKind.u8 (a : Int)) <$> Rtype.kind t) #[.pointer (some ⟨1, 114, none⟩)]).run Tryz.prog w = .ok (.int .u8 25) w := by kernel_rfl
theorem ea_rlm (z : Sem Value) (f : TypeId → Addr → Nat → Nat → Sem Value) (v : Value) :
    ReflectliteValue.method z f #[v] = (do match ← ReflectliteValue.parts v with | none => z | some (t, a, fl) => f t a fl (fl % 32)) := rfl
theorem ea_partsP (a : Addr) (w : World) : (ReflectliteValue.parts (.agg #[.pointer (some ⟨1, 116, none⟩), .pointer (some a), .int .u64 150])).run Tryz.prog w = .ok (some (116, a, 150)) w := by kernel_rfl
theorem ea_isNilP (a p : Addr) (W : World) (ha : W.cell? a = some (.pointer (some p))) :
    (ReflectliteValue.method (ReflectliteValue.valueError "reflectlite.Value.IsNil" 0) ReflectliteValue.isNil #[.agg #[.pointer (some ⟨1, 116, none⟩), .pointer (some a), .int .u64 150]]).run Tryz.prog W = .ok (.bool false) W := by
  rw [ea_rlm]
  simp only [Sem.run_bind, ea_partsP, Result.andThen]
  simp [ReflectliteValue.isNil, loadVar, isAgg, underlying, Tryz.underlying116, ha, Result.andThen]
theorem ea_methodKind (h : Value) (w : World) : (Go.method 188 225 (.agg #[h]) "Kind").run Tryz.prog w = .ok (171, h) w := by kernel_rfl
theorem ea_elemP (w : World) : (ReflectliteType.method ReflectliteType.elem #[.agg #[.pointer (some ⟨1, 116, none⟩)]]).run Tryz.prog w = .ok (.iface 225 (.agg #[.pointer (some ⟨1, 114, none⟩)])) w := by kernel_rfl
theorem ea_implements (w : World) : (ReflectliteType.relation "Implements" ReflectliteType.implements_ #[.agg #[.pointer (some ⟨1, 114, none⟩)], .iface 225 (.agg #[.pointer (some ⟨1, 110, none⟩)])]).run Tryz.prog w = .ok (.bool true) w := by kernel_rfl
theorem ea_typeOf (v : Value) (w : World) : (ReflectliteType.typeOf #[.iface 114 v]).run Tryz.prog w = .ok (.iface 225 (.agg #[.pointer (some ⟨1, 114, none⟩)])) w := by kernel_rfl
theorem ea_assignable (w : World) : (ReflectliteType.relation "AssignableTo" ReflectliteType.assignableTo #[.agg #[.pointer (some ⟨1, 114, none⟩)], .iface 225 (.agg #[.pointer (some ⟨1, 114, none⟩)])]).run Tryz.prog w = .ok (.bool true) w := by kernel_rfl
theorem ea_valueOfS (h c : Int) (w : World) : (ReflectliteValue.unpack (.iface 114 (.agg #[.int .i64 h, .int .i64 c]))).run Tryz.prog w
    = .ok (.agg #[.pointer (some ⟨1, 114, none⟩), .pointer (some ⟨w.heap.size, 0, none⟩), .int .u64 153]) (w.alloc (.cells #[.int .i64 h, .int .i64 c] 114)) := by kernel_rfl
theorem ea_elemOfP (w : World) : (Rtype.elem? 116).run Tryz.prog w = .ok (some 114) w := by kernel_rfl
theorem ea_mkS (p : Addr) (w : World) : (ReflectliteValue.mk 114 p ReflectliteValue.flagAddr).run Tryz.prog w = .ok (.agg #[.pointer (some ⟨1, 114, none⟩), .pointer (some p), .int .u64 409]) w := by kernel_rfl
theorem ea_elemVP (a p : Addr) (W : World) (ha : W.cell? a = some (.pointer (some p))) :
    (ReflectliteValue.method (ReflectliteValue.valueError "reflectlite.Value.Elem" 0) ReflectliteValue.elem #[.agg #[.pointer (some ⟨1, 116, none⟩), .pointer (some a), .int .u64 150]]).run Tryz.prog W
      = .ok (.agg #[.pointer (some ⟨1, 114, none⟩), .pointer (some p), .int .u64 409]) W := by
  rw [ea_rlm]
  simp only [Sem.run_bind, ea_partsP, Result.andThen]
  simp [ReflectliteValue.elem, loadVar, isAgg, underlying, Tryz.underlying116, ha, Result.andThen, ea_elemOfP, ea_mkS]
theorem ea_rls (v x : Value) : ReflectliteValue.set #[v, x] = (do
    let (some (dst, a, fl), some (src, b, _)) := (← ReflectliteValue.parts v, ← ReflectliteValue.parts x)
      | unsupported (.noEntry "extern/(internal/reflectlite.Value).Set.zeroValue")
    if fl / ReflectliteValue.flagAddr % 2 == 0 then unsupported (.noEntry "extern/(internal/reflectlite.Value).Set.unaddressable")
    let val ← loadVar src b
    if ← Rtype.directlyAssignable dst src then storeVar dst a val
    else if ← Rtype.implements dst src then
      if (← Rtype.kind src) == 20 then
        match val with
        | .nilIface => unsupported (.noEntry "extern/reflectlite: a nil value of one interface type handed on as a value of another")
        | _ => storeVar dst a val
      else storeVar dst a (.iface src val)
    else panicString ("reflectlite.Set: value of type " ++ (← Rtype.spelt src) ++ " is not assignable to type " ++ (← Rtype.spelt dst))
    pure (.tuple #[])) := rfl
theorem ea_partsSa (a : Addr) (w : World) : (ReflectliteValue.parts (.agg #[.pointer (some ⟨1, 114, none⟩), .pointer (some a), .int .u64 409])).run Tryz.prog w = .ok (some (114, a, 409)) w := by kernel_rfl
theorem ea_partsS (a : Addr) (w : World) : (ReflectliteValue.parts (.agg #[.pointer (some ⟨1, 114, none⟩), .pointer (some a), .int .u64 153])).run Tryz.prog w = .ok (some (114, a, 153)) w := by kernel_rfl
theorem ea_direct (w : World) : (Rtype.directlyAssignable 114 114).run Tryz.prog w = .ok true w := by kernel_rfl

theorem ea_set (ta b : Nat) (h c : Int) (o1 o2 : Value) (W : World) (hb : Blk W b 114 [.int .i64 h, .int .i64 c]) (ht : Blk W ta 114 [o1, o2]) :
    (ReflectliteValue.set #[.agg #[.pointer (some ⟨1, 114, none⟩), .pointer (some ⟨ta, 0, none⟩), .int .u64 409], .agg #[.pointer (some ⟨1, 114, none⟩), .pointer (some ⟨b, 0, none⟩), .int .u64 153]]).run Tryz.prog W
      = .ok (.tuple #[]) ((W.setCell ⟨ta, 0, none⟩ (.int .i64 h)).setCell ⟨ta, 1, none⟩ (.int .i64 c)) := by
  have b0 := hb.cell (k := 0) rfl
  have b1 := hb.cell (k := 1) rfl
  have t0 := ht.cell (k := 0) rfl
  have t1 := ht.cell (k := 1) rfl
  have f0 := ht.free 0
  have f1 := ht.free 1
  rw [ea_rls]
  simp only [Sem.run_bind, ea_partsSa, ea_partsS, Result.andThen]
  simp [ReflectliteValue.flagAddr, loadVar, isAgg, underlying, Tryz.underlying114, Result.andThen, ea_direct, storeVar, Value.cells, storeCells, Addr.add, go_sem, b0, b1]
  simp [t0, f0, t1, f1, go_sem]

set_option maxHeartbeats 4000000 in
theorem as_hit (h c : Int) (t : Nat) (o1 o2 : Value) (w : World) (hg : w.cell? ⟨0, 0, none⟩ = some (.iface 225 (.agg #[.pointer (some ⟨1, 110, none⟩)]))) (ht : Blk w t 114 [o1, o2]) :
    Calls Tryz.prog 62 #[.iface 114 (.agg #[.int .i64 h, .int .i64 c]), .iface 116 (.pointer (some ⟨t, 0, none⟩))] w
      fun ev w' => ev = .returned (.bool true) ∧ Blk w' t 114 [.int .i64 h, .int .i64 c] ∧ Kept w.heap.size (fun k => k = t) w w' := by
  have x0 := @run_callFunc_extern Tryz.prog 118 _ (fun args => ReflectliteValue.unpack (args.getD 0 (.tuple #[]))) Tryz.func118 (by kernel_rfl) (by kernel_rfl) (by kernel_rfl) (by kernel_rfl)
  have x1 := @run_callFunc_extern Tryz.prog 119 _ (ReflectliteValue.methodAny (ReflectliteValue.valueError "reflectlite.Value.Type" 0) (fun t _ _ _ => ReflectliteType.toType t)) Tryz.func119 (by kernel_rfl) (by kernel_rfl) (by kernel_rfl) (by kernel_rfl)
  have x2 := @run_callFunc_extern Tryz.prog 120 _ (ReflectliteValue.method (ReflectliteValue.valueError "reflectlite.Value.IsNil" 0) ReflectliteValue.isNil) Tryz.func120 (by kernel_rfl) (by kernel_rfl) (by kernel_rfl) (by kernel_rfl)
  have x3 := @run_callFunc_extern Tryz.prog 171 _ (ReflectliteType.abiMethod fun t => do pure (.int .u8 (← Rtype.kind t))) Tryz.func171 (by kernel_rfl) (by kernel_rfl) (by kernel_rfl) (by kernel_rfl)
  have x4 := @run_callFunc_extern Tryz.prog 184 _ (ReflectliteType.method ReflectliteType.elem) Tryz.func184 (by kernel_rfl) (by kernel_rfl) (by kernel_rfl) (by kernel_rfl)
  have x5 := @run_callFunc_extern Tryz.prog 185 _ (ReflectliteType.relation "Implements" ReflectliteType.implements_) Tryz.func185 (by kernel_rfl) (by kernel_rfl) (by kernel_rfl) (by kernel_rfl)
  have x6 := @run_callFunc_extern Tryz.prog 150 _ ReflectliteType.typeOf Tryz.func150 (by kernel_rfl) (by kernel_rfl) (by kernel_rfl) (by kernel_rfl)
  have x7 := @run_callFunc_extern Tryz.prog 182 _ (ReflectliteType.relation "AssignableTo" ReflectliteType.assignableTo) Tryz.func182 (by kernel_rfl) (by kernel_rfl) (by kernel_rfl) (by kernel_rfl)
  have x8 := @run_callFunc_extern Tryz.prog 151 _ (ReflectliteValue.method (ReflectliteValue.valueError "reflectlite.Value.Elem" 0) ReflectliteValue.elem) Tryz.func151 (by kernel_rfl) (by kernel_rfl) (by kernel_rfl) (by kernel_rfl)
  have x9 := @run_callFunc_extern Tryz.prog 152 _ ReflectliteValue.set Tryz.func152 (by kernel_rfl) (by kernel_rfl) (by kernel_rfl) (by kernel_rfl)
  have y0 := ea_valueOfP
  have y1 := ea_typeP
  have y2 := ea_kindP
  have y3 := ea_kindS
  have y4 := ea_elemP
  have y5 := ea_implements
  have y6 := ea_typeOf
  have y7 := ea_assignable
  have y8 := ea_valueOfS
  have n8 := ea_isNilP ⟨w.heap.size, 0, none⟩ ⟨t, 0, none⟩ ((w.alloc (.cells #[.pointer (some ⟨t, 0, none⟩)] 116)).alloc (.cells #[.pointer (some ⟨1, 116, none⟩), .pointer (some ⟨w.heap.size, 0, none⟩), .int .u64 150] 182)) (by simp)
  have hlt : 0 < w.heap.size := lt_of_cell hg
  have hg2 : ((w.alloc (.cells #[.pointer (some ⟨t, 0, none⟩)] 116)).alloc (.cells #[.pointer (some ⟨1, 116, none⟩), .pointer (some ⟨w.heap.size, 0, none⟩), .int .u64 150] 182)).cell? ⟨0, 0, none⟩ = some (.iface 225 (.agg #[.pointer (some ⟨1, 110, none⟩)])) := by
    rw [World.cell?_alloc_lt _ _ ⟨0, 0, none⟩ (by simp), World.cell?_alloc_lt _ _ ⟨0, 0, none⟩ hlt]; exact hg
  have el := ea_elemVP ⟨w.heap.size, 0, none⟩ ⟨t, 0, none⟩ (((w.alloc (.cells #[.pointer (some ⟨t, 0, none⟩)] 116)).alloc (.cells #[.pointer (some ⟨1, 116, none⟩), .pointer (some ⟨w.heap.size, 0, none⟩), .int .u64 150] 182)).alloc (.cells #[.pointer (some ⟨1, 116, none⟩), .pointer (some ⟨w.heap.size, 0, none⟩), .int .u64 150] 182)) (by rw [World.cell?_alloc_lt _ _ ⟨w.heap.size, 0, none⟩ (by simp; omega)]; simp)
  have ht3 := (((ht.alloc (.cells #[.pointer (some ⟨t, 0, none⟩)] 116)).alloc (.cells #[.pointer (some ⟨1, 116, none⟩), .pointer (some ⟨w.heap.size, 0, none⟩), .int .u64 150] 182)).alloc (.cells #[.pointer (some ⟨1, 116, none⟩), .pointer (some ⟨w.heap.size, 0, none⟩), .int .u64 150] 182)).alloc (.cells #[.int .i64 h, .int .i64 c] 114)
  have hb3 := Blk.new (((w.alloc (.cells #[.pointer (some ⟨t, 0, none⟩)] 116)).alloc (.cells #[.pointer (some ⟨1, 116, none⟩), .pointer (some ⟨w.heap.size, 0, none⟩), .int .u64 150] 182)).alloc (.cells #[.pointer (some ⟨1, 116, none⟩), .pointer (some ⟨w.heap.size, 0, none⟩), .int .u64 150] 182)) 114 [.int .i64 h, .int .i64 c]
  simp only [World.size_alloc] at hb3
  have st := ea_set t (w.heap.size + 1 + 1 + 1) h c o1 o2 _ hb3 ht3
  have HT := Lib.hid ht3
  have HL := ht.lt
  clear ht3 hb3 ht hg
  go_enter Tryz.func62, Tryz.ntmps62
  go_wp2
  refine wp_loop_rounds 1 ?_
  rw [rounds_succ]
  go_wp2
  go_ret
  refine ⟨rfl, (HT.out.set 0 _).set 1 _, ?_⟩
  exact (((((((Kept.refl w.heap.size (fun k => k = t) w).alloc (Nat.le_refl _) _).alloc (by simp) _).alloc (by simp; omega) _).alloc (by simp; omega) _).setCell (p := ⟨t, 0, none⟩) (.inl rfl) _).setCell (p := ⟨t, 1, none⟩) (.inl rfl) _)
end Go.Proofs.YtgaififhhffpfaaGreatDoor
