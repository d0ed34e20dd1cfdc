/- errors.As at the walk's own error: a copy of it is laid into the target. walk.Walk: the contract. The places of a path as a slice that is read. -/
import Derived.Test.YtglohconhbcchaaGreatDoorBlk
import Derived.LaidEql
import Derived.Stop.Asserts
import Derived.RowKitTokens
import Derived.Test.YtglohconhbcchaaGreatDoorFind
namespace Go.Proofs.YtglohconhbcchaaGreatDoor
open Go.RowKit Go.Extern.Stop Go.Stop Go.Extern

theorem as_nil (t : Value) (w : World) :
    Calls Tryz.prog 73 #[.nilIface, t] w fun e w' => e = .returned (.bool false) ∧ w = w' := by
  go_enter Tryz.func73, Tryz.ntmps73
  go_wp2
  go_ret
  exact ⟨rfl, rfl⟩

theorem ea_valueOfP (t : Addr) (w : World) : (ReflectliteValue.unpack (.iface 153 (.pointer (some t)))).run Tryz.prog w
    = .ok (.agg #[.pointer (some ⟨1, 153, none⟩), .pointer (some ⟨w.heap.size, 0, none⟩), .int .u64 150]) (w.alloc (.cells #[.pointer (some t)] 153)) := by kernel_rfl
theorem ea_typeP (a : Addr) (w : World) : (ReflectliteValue.methodAny (ReflectliteValue.valueError "reflectlite.Value.Type" 0) (fun t _ _ _ => ReflectliteType.toType t) #[.agg #[.pointer (some ⟨1, 153, none⟩), .pointer (some a), .int .u64 150]]).run Tryz.prog w
    = .ok (.iface 266 (.agg #[.pointer (some ⟨1, 153, none⟩)])) w := by kernel_rfl
theorem ea_kindP (w : World) : ((ReflectliteType.abiMethod fun t => (fun a : Nat => Value.int IntKind.u8 (a : Int)) <$> Rtype.kind t) #[.pointer (some ⟨1, 153, none⟩)]).run Tryz.prog w = .ok (.int .u8 22) w := by kernel_rfl
theorem ea_kindS (w : World) : ((ReflectliteType.abiMethod fun t => (fun a : Nat => Value.int IntKind.u8 (a : Int)) <$> Rtype.kind t) #[.pointer (some ⟨1, 151, none⟩)]).run Tryz.prog w = .ok (.int .u8 25) w := by kernel_rfl
theorem ea_rlm (z : Sem Value) (f : TypeId → Addr → Nat → Nat → Sem Value) (v : Value) :
    ReflectliteValue.method z f #[v] = (do match ← ReflectliteValue.parts v with | none => z | some (t, a, fl) => f t a fl (fl % 32)) := rfl
theorem ea_partsP (a : Addr) (w : World) : (ReflectliteValue.parts (.agg #[.pointer (some ⟨1, 153, none⟩), .pointer (some a), .int .u64 150])).run Tryz.prog w = .ok (some (153, a, 150)) w := by kernel_rfl
theorem ea_isNilP (a p : Addr) (W : World) (ha : W.cell? a = some (.pointer (some p))) :
    (ReflectliteValue.method (ReflectliteValue.valueError "reflectlite.Value.IsNil" 0) ReflectliteValue.isNil #[.agg #[.pointer (some ⟨1, 153, none⟩), .pointer (some a), .int .u64 150]]).run Tryz.prog W = .ok (.bool false) W := by
  rw [ea_rlm]
  simp only [Sem.run_bind, ea_partsP, Result.andThen]
  simp [ReflectliteValue.isNil, loadVar, isAgg, underlying, Tryz.underlying153, ha, Result.andThen]
theorem ea_methodKind (h : Value) (w : World) : (Go.method 188 266 (.agg #[h]) "Kind").run Tryz.prog w = .ok (234, h) w := by kernel_rfl
theorem ea_elemP (w : World) : (ReflectliteType.method ReflectliteType.elem #[.agg #[.pointer (some ⟨1, 153, none⟩)]]).run Tryz.prog w = .ok (.iface 266 (.agg #[.pointer (some ⟨1, 151, none⟩)])) w := by kernel_rfl
theorem ea_implements (w : World) : (ReflectliteType.relation "Implements" ReflectliteType.implements_ #[.agg #[.pointer (some ⟨1, 151, none⟩)], .iface 266 (.agg #[.pointer (some ⟨1, 147, none⟩)])]).run Tryz.prog w = .ok (.bool true) w := by kernel_rfl
theorem ea_typeOf (v : Value) (w : World) : (ReflectliteType.typeOf #[.iface 151 v]).run Tryz.prog w = .ok (.iface 266 (.agg #[.pointer (some ⟨1, 151, none⟩)])) w := by kernel_rfl
theorem ea_assignable (w : World) : (ReflectliteType.relation "AssignableTo" ReflectliteType.assignableTo #[.agg #[.pointer (some ⟨1, 151, none⟩)], .iface 266 (.agg #[.pointer (some ⟨1, 151, none⟩)])]).run Tryz.prog w = .ok (.bool true) w := by kernel_rfl
theorem ea_valueOfS (h c : Int) (w : World) : (ReflectliteValue.unpack (.iface 151 (.agg #[.int .i64 h, .int .i64 c]))).run Tryz.prog w
    = .ok (.agg #[.pointer (some ⟨1, 151, none⟩), .pointer (some ⟨w.heap.size, 0, none⟩), .int .u64 153]) (w.alloc (.cells #[.int .i64 h, .int .i64 c] 151)) := by kernel_rfl
theorem ea_elemOfP (w : World) : (Rtype.elem? 153).run Tryz.prog w = .ok (some 151) w := by kernel_rfl
theorem ea_mkS (p : Addr) (w : World) : (ReflectliteValue.mk 151 p ReflectliteValue.flagAddr).run Tryz.prog w = .ok (.agg #[.pointer (some ⟨1, 151, none⟩), .pointer (some p), .int .u64 409]) w := by kernel_rfl
theorem ea_elemVP (a p : Addr) (W : World) (ha : W.cell? a = some (.pointer (some p))) :
    (ReflectliteValue.method (ReflectliteValue.valueError "reflectlite.Value.Elem" 0) ReflectliteValue.elem #[.agg #[.pointer (some ⟨1, 153, none⟩), .pointer (some a), .int .u64 150]]).run Tryz.prog W
      = .ok (.agg #[.pointer (some ⟨1, 151, none⟩), .pointer (some p), .int .u64 409]) W := by
  rw [ea_rlm]
  simp only [Sem.run_bind, ea_partsP, Result.andThen]
  simp [ReflectliteValue.elem, loadVar, isAgg, underlying, Tryz.underlying153, ha, Result.andThen, ea_elemOfP, ea_mkS]
theorem ea_rls (v x : Value) : ReflectliteValue.set #[v, x] = (do
    let (some (dst, a, fl), some (src, b, _)) := (← ReflectliteValue.parts v, ← ReflectliteValue.parts x)
      | unsupported (.noEntry "extern/(internal/reflectlite.Value).Set.zeroValue")
    if fl / ReflectliteValue.flagAddr % 2 == 0 then unsupported (.noEntry "extern/(internal/reflectlite.Value).Set.unaddressable")
    let val ← loadVar src b
    if ← Rtype.directlyAssignable dst src then storeVar dst a val
    else if ← Rtype.implements dst src then
      if (← Rtype.kind src) == 20 then
        match val with
        | .nilIface => unsupported (.noEntry "extern/reflectlite: a nil value of one interface type handed on as a value of another")
        | _ => storeVar dst a val
      else storeVar dst a (.iface src val)
    else panicString ("reflectlite.Set: value of type " ++ (← Rtype.spelt src) ++ " is not assignable to type " ++ (← Rtype.spelt dst))
    pure (.tuple #[])) := rfl
theorem ea_partsSa (a : Addr) (w : World) : (ReflectliteValue.parts (.agg #[.pointer (some ⟨1, 151, none⟩), .pointer (some a), .int .u64 409])).run Tryz.prog w = .ok (some (151, a, 409)) w := by kernel_rfl
theorem ea_partsS (a : Addr) (w : World) : (ReflectliteValue.parts (.agg #[.pointer (some ⟨1, 151, none⟩), .pointer (some a), .int .u64 153])).run Tryz.prog w = .ok (some (151, a, 153)) w := by kernel_rfl
theorem ea_direct (w : World) : (Rtype.directlyAssignable 151 151).run Tryz.prog w = .ok true w := by kernel_rfl

theorem ea_set (ta b : Nat) (h c : Int) (o1 o2 : Value) (W : World) (hb : Blk W b 151 [.int .i64 h, .int .i64 c]) (ht : Blk W ta 151 [o1, o2]) :
    (ReflectliteValue.set #[.agg #[.pointer (some ⟨1, 151, none⟩), .pointer (some ⟨ta, 0, none⟩), .int .u64 409], .agg #[.pointer (some ⟨1, 151, none⟩), .pointer (some ⟨b, 0, none⟩), .int .u64 153]]).run Tryz.prog W
      = .ok (.tuple #[]) ((W.setCell ⟨ta, 0, none⟩ (.int .i64 h)).setCell ⟨ta, 1, none⟩ (.int .i64 c)) := by
  have b0 := hb.cell (k := 0) rfl
  have b1 := hb.cell (k := 1) rfl
  have t0 := ht.cell (k := 0) rfl
  have t1 := ht.cell (k := 1) rfl
  have f0 := ht.free 0
  have f1 := ht.free 1
  rw [ea_rls]
  simp only [Sem.run_bind, ea_partsSa, ea_partsS, Result.andThen]
  simp [ReflectliteValue.flagAddr, loadVar, isAgg, underlying, Tryz.underlying151, Result.andThen, ea_direct, storeVar, Value.cells, storeCells, Addr.add, go_sem, b0, b1]
  simp [t0, f0, t1, f1, go_sem]

set_option maxHeartbeats 4000000 in
theorem as_hit (h c : Int) (t : Nat) (o1 o2 : Value) (w : World) (hg : w.cell? ⟨0, 0, none⟩ = some (.iface 266 (.agg #[.pointer (some ⟨1, 147, none⟩)]))) (ht : Blk w t 151 [o1, o2]) :
    Calls Tryz.prog 73 #[.iface 151 (.agg #[.int .i64 h, .int .i64 c]), .iface 153 (.pointer (some ⟨t, 0, none⟩))] w
      fun ev w' => ev = .returned (.bool true) ∧ Blk w' t 151 [.int .i64 h, .int .i64 c] ∧ Kept w.heap.size (fun k => k = t) w w' := by
  have x0 := @run_callFunc_extern Tryz.prog 125 _ (fun args => ReflectliteValue.unpack (args.getD 0 (.tuple #[]))) Tryz.func125 (by kernel_rfl) (by kernel_rfl) (by kernel_rfl) (by kernel_rfl)
  have x1 := @run_callFunc_extern Tryz.prog 126 _ (ReflectliteValue.methodAny (ReflectliteValue.valueError "reflectlite.Value.Type" 0) (fun t _ _ _ => ReflectliteType.toType t)) Tryz.func126 (by kernel_rfl) (by kernel_rfl) (by kernel_rfl) (by kernel_rfl)
  have x2 := @run_callFunc_extern Tryz.prog 127 _ (ReflectliteValue.method (ReflectliteValue.valueError "reflectlite.Value.IsNil" 0) ReflectliteValue.isNil) Tryz.func127 (by kernel_rfl) (by kernel_rfl) (by kernel_rfl) (by kernel_rfl)
  have x3 := @run_callFunc_extern Tryz.prog 234 _ (ReflectliteType.abiMethod fun t => do pure (.int .u8 (← Rtype.kind t))) Tryz.func234 (by kernel_rfl) (by kernel_rfl) (by kernel_rfl) (by kernel_rfl)
  have x4 := @run_callFunc_extern Tryz.prog 244 _ (ReflectliteType.method ReflectliteType.elem) Tryz.func244 (by kernel_rfl) (by kernel_rfl) (by kernel_rfl) (by kernel_rfl)
  have x5 := @run_callFunc_extern Tryz.prog 245 _ (ReflectliteType.relation "Implements" ReflectliteType.implements_) Tryz.func245 (by kernel_rfl) (by kernel_rfl) (by kernel_rfl) (by kernel_rfl)
  have x6 := @run_callFunc_extern Tryz.prog 183 _ ReflectliteType.typeOf Tryz.func183 (by kernel_rfl) (by kernel_rfl) (by kernel_rfl) (by kernel_rfl)
  have x7 := @run_callFunc_extern Tryz.prog 242 _ (ReflectliteType.relation "AssignableTo" ReflectliteType.assignableTo) Tryz.func242 (by kernel_rfl) (by kernel_rfl) (by kernel_rfl) (by kernel_rfl)
  have x8 := @run_callFunc_extern Tryz.prog 184 _ (ReflectliteValue.method (ReflectliteValue.valueError "reflectlite.Value.Elem" 0) ReflectliteValue.elem) Tryz.func184 (by kernel_rfl) (by kernel_rfl) (by kernel_rfl) (by kernel_rfl)
  have x9 := @run_callFunc_extern Tryz.prog 185 _ ReflectliteValue.set Tryz.func185 (by kernel_rfl) (by kernel_rfl) (by kernel_rfl) (by kernel_rfl)
  have y0 := ea_valueOfP
  have y1 := ea_typeP
  have y2 := ea_kindP
  have y3 := ea_kindS
  have y4 := ea_elemP
  have y5 := ea_implements
  have y6 := ea_typeOf
  have y7 := ea_assignable
  have y8 := ea_valueOfS
  have n8 := ea_isNilP ⟨w.heap.size, 0, none⟩ ⟨t, 0, none⟩ ((w.alloc (.cells #[.pointer (some ⟨t, 0, none⟩)] 153)).alloc (.cells #[.pointer (some ⟨1, 153, none⟩), .pointer (some ⟨w.heap.size, 0, none⟩), .int .u64 150] 233)) (by simp)
  have hlt : 0 < w.heap.size := lt_of_cell hg
  have hg2 : ((w.alloc (.cells #[.pointer (some ⟨t, 0, none⟩)] 153)).alloc (.cells #[.pointer (some ⟨1, 153, none⟩), .pointer (some ⟨w.heap.size, 0, none⟩), .int .u64 150] 233)).cell? ⟨0, 0, none⟩ = some (.iface 266 (.agg #[.pointer (some ⟨1, 147, none⟩)])) := by
    rw [World.cell?_alloc_lt _ _ ⟨0, 0, none⟩ (by simp), World.cell?_alloc_lt _ _ ⟨0, 0, none⟩ hlt]; exact hg
  have el := ea_elemVP ⟨w.heap.size, 0, none⟩ ⟨t, 0, none⟩ (((w.alloc (.cells #[.pointer (some ⟨t, 0, none⟩)] 153)).alloc (.cells #[.pointer (some ⟨1, 153, none⟩), .pointer (some ⟨w.heap.size, 0, none⟩), .int .u64 150] 233)).alloc (.cells #[.pointer (some ⟨1, 153, none⟩), .pointer (some ⟨w.heap.size, 0, none⟩), .int .u64 150] 233)) (by rw [World.cell?_alloc_lt _ _ ⟨w.heap.size, 0, none⟩ (by simp; omega)]; simp)
  have ht3 := (((ht.alloc (.cells #[.pointer (some ⟨t, 0, none⟩)] 153)).alloc (.cells #[.pointer (some ⟨1, 153, none⟩), .pointer (some ⟨w.heap.size, 0, none⟩), .int .u64 150] 233)).alloc (.cells #[.pointer (some ⟨1, 153, none⟩), .pointer (some ⟨w.heap.size, 0, none⟩), .int .u64 150] 233)).alloc (.cells #[.int .i64 h, .int .i64 c] 151)
  have hb3 := Blk.new (((w.alloc (.cells #[.pointer (some ⟨t, 0, none⟩)] 153)).alloc (.cells #[.pointer (some ⟨1, 153, none⟩), .pointer (some ⟨w.heap.size, 0, none⟩), .int .u64 150] 233)).alloc (.cells #[.pointer (some ⟨1, 153, none⟩), .pointer (some ⟨w.heap.size, 0, none⟩), .int .u64 150] 233)) 151 [.int .i64 h, .int .i64 c]
  simp only [World.size_alloc] at hb3
  have st := ea_set t (w.heap.size + 1 + 1 + 1) h c o1 o2 _ hb3 ht3
  have HT := Lib.hid ht3
  have HL := ht.lt
  clear ht3 hb3 ht hg
  go_enter Tryz.func73, Tryz.ntmps73
  go_wp2
  refine wp_loop_rounds 1 ?_
  rw [rounds_succ]
  go_wp2
  go_ret
  refine ⟨rfl, (HT.out.set 0 _).set 1 _, ?_⟩
  exact (((((((Kept.refl w.heap.size (fun k => k = t) w).alloc (Nat.le_refl _) _).alloc (by simp) _).alloc (by simp; omega) _).alloc (by simp; omega) _).setCell (p := ⟨t, 0, none⟩) (.inl rfl) _).setCell (p := ⟨t, 1, none⟩) (.inl rfl) _)
end Go.Proofs.YtglohconhbcchaaGreatDoor

namespace Go.Proofs.YtglohconhbcchaaGreatDoor
open Go.RowKit Go.Shelf

theorem gal {w : World} {a : Addr} {v : Value} (h : w.cell? a = some v) (o : Obj) : (w.alloc o).cell? a = some v := by rw [World.cell?_alloc_some _ _ _ (by rw [h]; rfl)]; exact h
theorem Kept.below' {B B' : Nat} {S : Nat → Prop} {w w' : World} (h : Kept B S w w') (hB : B' ≤ B) (hS : ∀ k, k < B' → ¬ S k) : Below B' w w' := ⟨h.os, h.tape, h.output, h.size, fun k hk => h.block k (Nat.lt_of_lt_of_le hk hB) (hS k hk)⟩
theorem Sl.set {w : World} {a : Option Addr} {l : List (Int × Int)} (h : Sl w a l) {b : Nat} {T : TypeId} {xs : List Value} (hb : Blk w b T xs) (hT : T ≠ 78) (k : Nat) (v : Value) : Sl (w.setCell ⟨b, k, none⟩ v) a l := by
  rcases h with h | ⟨b', rest, h1, h2⟩
  · exact .inl h
  · exact .inr ⟨b', rest, h1, h2.other (fun e => by subst e; exact hT (hb.inj h2).2) v⟩
theorem seven {W w0 : World} {b B0 : Nat} {x0 x1 x2 x3 x4 x5 x6 : Value} (v0 v1 v2 v3 v4 v5 v6 : Value) {a : Option Addr} {l : List (Int × Int)} (h : Blk W b 71 [x0, x1, x2, x3, x4, x5, x6]) (hB : Below B0 w0 W) (hb : B0 ≤ b) (hS : Sl W a l) :
    Blk (((((((W.setCell ⟨b, 0, none⟩ v0).setCell ⟨b, 1, none⟩ v1).setCell ⟨b, 2, none⟩ v2).setCell ⟨b, 3, none⟩ v3).setCell ⟨b, 4, none⟩ v4).setCell ⟨b, 5, none⟩ v5).setCell ⟨b, 6, none⟩ v6) b 71 [v0, v1, v2, v3, v4, v5, v6] ∧
    Below B0 w0 (((((((W.setCell ⟨b, 0, none⟩ v0).setCell ⟨b, 1, none⟩ v1).setCell ⟨b, 2, none⟩ v2).setCell ⟨b, 3, none⟩ v3).setCell ⟨b, 4, none⟩ v4).setCell ⟨b, 5, none⟩ v5).setCell ⟨b, 6, none⟩ v6) ∧
    Sl (((((((W.setCell ⟨b, 0, none⟩ v0).setCell ⟨b, 1, none⟩ v1).setCell ⟨b, 2, none⟩ v2).setCell ⟨b, 3, none⟩ v3).setCell ⟨b, 4, none⟩ v4).setCell ⟨b, 5, none⟩ v5).setCell ⟨b, 6, none⟩ v6) a l := by
  have h0 := h.set 0 v0
  have h1 := h0.set 1 v1
  have h2 := h1.set 2 v2
  have h3 := h2.set 3 v3
  have h4 := h3.set 4 v4
  have h5 := h4.set 5 v5
  have h6 := h5.set 6 v6
  refine ⟨h6, ?_, ?_⟩
  · exact ((((((hB.setCell (p := ⟨b, 0, none⟩) hb v0).setCell (p := ⟨b, 1, none⟩) hb v1).setCell (p := ⟨b, 2, none⟩) hb v2).setCell (p := ⟨b, 3, none⟩) hb v3).setCell (p := ⟨b, 4, none⟩) hb v4).setCell (p := ⟨b, 5, none⟩) hb v5).setCell (p := ⟨b, 6, none⟩) hb v6
  · exact ((((((hS.set h (by decide) 0 v0).set h0 (by decide) 1 v1).set h1 (by decide) 2 v2).set h2 (by decide) 3 v3).set h3 (by decide) 4 v4).set h4 (by decide) 5 v5).set h5 (by decide) 6 v6
/-- What Walk hands back. -/
def out : Except (Int × Int) Path → Path × Int × Int
  | .error e => (Path.none, e.1, e.2)
  | .ok p => (p, 0, 0)

set_option maxRecDepth 100000 in
set_option maxHeartbeats 1000000 in
theorem walk_any (w : World) (p gp hb mp fp fb : Nat) (hosts mem : List Nat) (cap nf : Nat) (root page kind : Int) (user : Bool) (H : Host w fp fb nf mem) (G : Guest w p gp hb mp fp hosts cap nf)
    (hg : w.cell? ⟨0, 0, none⟩ = some (.iface 266 (.agg #[.pointer (some ⟨1, 147, none⟩)]))) :
    Calls Tryz.prog 25 #[.pointer (some ⟨p, 0, none⟩), .int .i64 root, .int .i64 page, .int .i64 kind, .bool user] w
      fun e w' => Below w.heap.size w w' ∧ ∃ a c P h k, out (wk (rd hosts mem) hosts.length root page kind user) = (P, h, k) ∧
        e = .returned (.tuple #[.agg #[.slice a P.ats.length c, .int .i64 P.g, .bool P.r.w, .bool P.r.u, .bool P.r.x, .bool P.large, .bool P.dirty], .int .i64 h, .int .i64 k]) ∧ Sl w' a P.ats := by
  have hf := callsIn_wide.1 (find_in 9 (Nat.le_refl _) (w.alloc (.cells (pathCells (.slice none 0 0) Path.none).toArray 71)) p gp hb mp fp fb hosts mem cap nf root page kind user (H.past ((Below.refl _ w).alloc (Nat.le_refl _) _)) (G.past ((Below.refl _ w).alloc (Nat.le_refl _) _)))
  have h0 : 0 < w.heap.size := lt_of_cell hg
  obtain ⟨r, hr⟩ : ∃ r, wk (rd hosts mem) hosts.length root page kind user = r := ⟨_, rfl⟩
  rw [hr] at hf ⊢
  clear hr H G
  cases r with
  | error hc =>
    obtain ⟨h, c⟩ := hc
    have hP : (h, c) = (h, c) → out (.error (h, c)) = (Path.none, h, c) := fun _ => rfl
    have HP := Lib.hid hP
    clear hP
    refine Calls.mono (R := fun e w' => e = .returned (.tuple #[.agg #[.slice none 0 0, .int .i64 0, .bool false, .bool false, .bool false, .bool false, .bool false], .int .i64 h, .int .i64 c]) ∧ Below w.heap.size w w') ?_ (by
      rintro e w' ⟨h1, h2⟩
      exact ⟨h2, none, 0, Path.none, h, c, rfl, h1, Sl.nil _⟩)
    have hgA := gal hg (.cells #[.slice none 0 0, .int .i64 0, .bool false, .bool false, .bool false, .bool false, .bool false] 71)
    have hT := Blk.new w 71 [.slice none 0 0, .int .i64 0, .bool false, .bool false, .bool false, .bool false, .bool false]
    have HG := Lib.hid hgA
    have HT := Lib.hid hT
    clear hgA hT hg
    go_enter Tryz.func25, Tryz.ntmps25
    go_wp2_with (first
      | (go_at_call 72; refine hf.mono ?_; rintro e W ⟨hB, rfl⟩; have hs0 := hB.size; simp at hs0)
      | (go_at_call 73; refine (as_hit h c _ (.int .i64 0) (.int .i64 0) _ (gal (gal (((bcell hB).1 0 0 (by simp)).trans HG.out) _) _) (by have := Blk.new (W.alloc (.cells #[.slice none 0 0, .int .i64 0, .bool false, .bool false, .bool false, .bool false, .bool false] 71)) 151 [.int .i64 0, .int .i64 0]; simpa using this)).mono ?_; rintro e W2 ⟨rfl, hw2, hk2⟩))
    have hT2 := ((((HT.out.past hB).alloc _).alloc _).kept hk2 (by simp; omega) (by omega))
    have f0 := hw2.cell (k := 0) rfl
    have f1 := hw2.cell (k := 1) rfl
    have t0 := hT2.cell (k := 0) rfl
    have t1 := hT2.cell (k := 1) rfl
    have t2 := hT2.cell (k := 2) rfl
    have t3 := hT2.cell (k := 3) rfl
    have t4 := hT2.cell (k := 4) rfl
    have t5 := hT2.cell (k := 5) rfl
    have t6 := hT2.cell (k := 6) rfl
    have tf := fun k => hT2.free k
    have B1' : Below W.heap.size W W2 := (((Below.refl _ W).alloc (Nat.le_refl _) _).alloc (by simp) _).trans (hk2.below' (by simp; omega) (fun k hk e => by omega))
    have B2 : Below w.heap.size w W2 := ((Below.refl _ w).alloc (Nat.le_refl _) _).trans ((hB.mono (by simp)).trans (B1'.mono (by omega)))
    clear B1'
    have ne1 : w.heap.size ≠ W.heap.size + 1 := by omega
    have RT := ((((((((hT2).set 0 (.slice none 0 0)).set 1 (.int .i64 0)).set 2 (.bool false)).set 3 (.bool false)).set 4 (.bool false)).set 5 (.bool false)).set 6 (.bool false)).drew
    have BB := (((((((((B2).setCell (p := ⟨w.heap.size, 0, none⟩) (Nat.le_refl _) (.slice none 0 0)).setCell (p := ⟨w.heap.size, 1, none⟩) (Nat.le_refl _) (.int .i64 0)).setCell (p := ⟨w.heap.size, 2, none⟩) (Nat.le_refl _) (.bool false)).setCell (p := ⟨w.heap.size, 3, none⟩) (Nat.le_refl _) (.bool false)).setCell (p := ⟨w.heap.size, 4, none⟩) (Nat.le_refl _) (.bool false)).setCell (p := ⟨w.heap.size, 5, none⟩) (Nat.le_refl _) (.bool false)).setCell (p := ⟨w.heap.size, 6, none⟩) (Nat.le_refl _) (.bool false))).drew
    have HR := Lib.hid RT
    have HBB := Lib.hid BB
    clear RT BB B2 HT HG hB hk2
    go_region_held3 (fun w' => w'.cell? ⟨W.heap.size + 1, 0, none⟩ = some (.int .i64 h) ∧ w'.cell? ⟨W.heap.size + 1, 1, none⟩ = some (.int .i64 c)) (go_keep) (fail)
    all_goals go_wp2
    all_goals
      have R := HR.out
      have r0 := R.cell (k := 0) (v := .slice none 0 0) rfl
      have r1 := R.cell (k := 1) (v := .int .i64 0) rfl
      have r2 := R.cell (k := 2) (v := .bool false) rfl
      have r3 := R.cell (k := 3) (v := .bool false) rfl
      have r4 := R.cell (k := 4) (v := .bool false) rfl
      have r5 := R.cell (k := 5) (v := .bool false) rfl
      have r6 := R.cell (k := 6) (v := .bool false) rfl
      refine bodyPost_ret (v := .tuple #[.agg #[.slice none 0 0, .int .i64 0, .bool false, .bool false, .bool false, .bool false, .bool false], .int .i64 h, .int .i64 c]) ?_ rfl ⟨rfl, HBB.out⟩
      clear t0 t1 t2 t3 t4 t5 t6 tf f0 f1
      simp [results, Tryz.results25, go_sem, r0, r1, r2, r3, r4, r5, r6]
  | ok P =>
    obtain ⟨ats, g, r, lg, d⟩ := P
    have hf' : Calls Tryz.prog 72 #[.pointer (some ⟨p, 0, none⟩), .int .i64 root, .int .i64 page, .int .i64 kind, .bool user] (w.alloc (.cells (pathCells (.slice none 0 0) Path.none).toArray 71))
        (fun e w' => Below (w.alloc (.cells (pathCells (.slice none 0 0) Path.none).toArray 71)).heap.size (w.alloc (.cells (pathCells (.slice none 0 0) Path.none).toArray 71)) w' ∧
          ∃ a c, e = .returned (.tuple #[.agg #[.slice a ats.length c, .int .i64 g, .bool r.w, .bool r.u, .bool r.x, .bool lg, .bool d], .nilIface]) ∧ Sl w' a ats) := hf.mono (by
      rintro e w' ⟨h1, sl, h2, h3⟩
      obtain ⟨a, c, rfl, h4⟩ := Sl.of_row h3
      exact ⟨h1, a, c, h2, h4⟩)
    clear hf
    refine Calls.mono (R := fun e w' => Below w.heap.size w w' ∧ ∃ a c, e = .returned (.tuple #[.agg #[.slice a ats.length c, .int .i64 g, .bool r.w, .bool r.u, .bool r.x, .bool lg, .bool d], .int .i64 0, .int .i64 0]) ∧ Sl w' a ats) ?_ (by
      rintro e w' ⟨h1, a, c, h2, h3⟩
      exact ⟨h1, a, c, ⟨ats, g, r, lg, d⟩, 0, 0, rfl, h2, h3⟩)
    have hT := Blk.new w 71 [.slice none 0 0, .int .i64 0, .bool false, .bool false, .bool false, .bool false, .bool false]
    have HT := Lib.hid hT
    clear hT hg
    go_enter Tryz.func25, Tryz.ntmps25
    go_wp2_with (first
      | (go_at_call 72; refine hf'.mono ?_; rintro e W ⟨hB, a, c, rfl, hS⟩; have hs0 := hB.size; simp at hs0; have hT2 := ((HT.out.past hB).alloc (.cells #[.slice a ats.length c, .int .i64 g, .bool r.w, .bool r.u, .bool r.x, .bool lg, .bool d] 71)).alloc (.cells #[.int .i64 0, .int .i64 0] 151); have t0 := hT2.cell (k := 0) rfl; have t1 := hT2.cell (k := 1) rfl; have t2 := hT2.cell (k := 2) rfl; have t3 := hT2.cell (k := 3) rfl; have t4 := hT2.cell (k := 4) rfl; have t5 := hT2.cell (k := 5) rfl; have t6 := hT2.cell (k := 6) rfl; have tf := fun k => hT2.free k)
      | (go_at_call 73; refine (as_nil _ _).mono ?_; rintro e W2 ⟨rfl, rfl⟩))
    have BW : Below w.heap.size w ((W.alloc (.cells #[.slice a ats.length c, .int .i64 g, .bool r.w, .bool r.u, .bool r.x, .bool lg, .bool d] 71)).alloc (.cells #[.int .i64 0, .int .i64 0] 151)) :=
      ((Below.refl _ w).alloc (Nat.le_refl _) _).trans ((hB.mono (by simp)).trans ((((Below.refl _ W).alloc (Nat.le_refl _) _).alloc (by simp) _).mono (by omega)))
    have SW := (hS.past ((Below.refl W.heap.size W).alloc (Nat.le_refl _) (.cells #[.slice a ats.length c, .int .i64 g, .bool r.w, .bool r.u, .bool r.x, .bool lg, .bool d] 71))).past ((Below.refl _ _).alloc (Nat.le_refl _) (.cells #[.int .i64 0, .int .i64 0] 151))
    obtain ⟨Wz, hWz⟩ : ∃ Wz, (W.alloc (.cells #[.slice a ats.length c, .int .i64 g, .bool r.w, .bool r.u, .bool r.x, .bool lg, .bool d] 71)).alloc (.cells #[.int .i64 0, .int .i64 0] 151) = Wz := ⟨_, rfl⟩
    clear t0 t1 t2 t3 t4 t5 t6 tf
    rw [hWz] at hT2 BW SW ⊢
    clear hWz hB hS HT
    obtain ⟨R, BB, SS⟩ := seven (.slice a ats.length c) (.int .i64 g) (.bool r.w) (.bool r.u) (.bool r.x) (.bool lg) (.bool d) hT2 BW (Nat.le_refl _) SW
    have r0 := R.cell (k := 0) rfl
    have r1 := R.cell (k := 1) rfl
    have r2 := R.cell (k := 2) rfl
    have r3 := R.cell (k := 3) rfl
    have r4 := R.cell (k := 4) rfl
    have r5 := R.cell (k := 5) rfl
    have r6 := R.cell (k := 6) rfl
    refine bodyPost_ret (v := .tuple #[.agg #[.slice a ats.length c, .int .i64 g, .bool r.w, .bool r.u, .bool r.x, .bool lg, .bool d], .int .i64 0, .int .i64 0]) ?_ rfl ⟨BB, a, c, rfl, SS⟩
    clear hT2 BW SW R BB SS hf'
    simp [results, Tryz.results25, go_sem, r0, r1, r2, r3, r4, r5, r6]
end Go.Proofs.YtglohconhbcchaaGreatDoor
