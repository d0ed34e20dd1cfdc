/- errors.As at the walk's own error: a copy of it is laid into the target. walk.Walk: the contract. The places of a path as a slice that is read. -/
import Derived.Test.YtldmlmojokicaaaBlk
import Derived.LaidEql
import Derived.Stop.Asserts
import Derived.RowKitTokens
import Derived.Test.YtldmlmojokicaaaFind
namespace Go.Proofs.Ytldmlmojokicaaa
open Go.RowKit Go.Extern.Stop Go.Stop Go.Extern

theorem ea_rlm (z : Sem Value) (f : TypeId → Addr → Nat → Nat → Sem Value) (v : Value) :
    ReflectliteValue.method z f #[v] = (do match ← ReflectliteValue.parts v with | none => z | some (t, a, fl) => f t a fl (fl % 32)) := rfl
theorem ea_rls (v x : Value) : ReflectliteValue.set #[v, x] = (do
    let (some (dst, a, fl), some (src, b, _)) := (← ReflectliteValue.parts v, ← ReflectliteValue.parts x)
      | unsupported (.noEntry "extern/(internal/reflectlite.Value).Set.zeroValue")
    if fl / ReflectliteValue.flagAddr % 2 == 0 then unsupported (.noEntry "extern/(internal/reflectlite.Value).Set.unaddressable")
    let val ← loadVar src b
    if ← Rtype.directlyAssignable dst src then storeVar dst a val
    else if ← Rtype.implements dst src then
      if (← Rtype.kind src) == 20 then
        match val with
        | .nilIface => unsupported (.noEntry "extern/reflectlite: a nil value of one interface type handed on as a value of another")
        | _ => storeVar dst a val
      else storeVar dst a (.iface src val)
    else panicString ("reflectlite.Set: value of type " ++ (← Rtype.spelt src) ++ " is not assignable to type " ++ (← Rtype.spelt dst))
    pure (.tuple #[])) := rfl
end Go.Proofs.Ytldmlmojokicaaa

namespace Go.Proofs.Ytldmlmojokicaaa
open Go.RowKit Go.Shelf

theorem gal {w : World} {a : Addr} {v : Value} (h : w.cell? a = some v) (o : Obj) : (w.alloc o).cell? a = some v := by rw [World.cell?_alloc_some _ _ _ (by rw [h]; rfl)]; exact h
theorem Kept.below' {B B' : Nat} {S : Nat → Prop} {w w' : World} (h : Kept B S w w') (hB : B' ≤ B) (hS : ∀ k, k < B' → ¬ S k) : Below B' w w' := ⟨h.os, h.tape, h.output, h.size, fun k hk => h.block k (Nat.lt_of_lt_of_le hk hB) (hS k hk)⟩
theorem Sl.set {w : World} {a : Option Addr} {l : List (Int × Int)} (h : Sl w a l) {b : Nat} {T : TypeId} {xs : List Value} (hb : Blk w b T xs) (hT : T ≠ 111) (k : Nat) (v : Value) : Sl (w.setCell ⟨b, k, none⟩ v) a l := by
  rcases h with h | ⟨b', rest, h1, h2⟩
  · exact .inl h
  · exact .inr ⟨b', rest, h1, h2.other (fun e => by subst e; exact hT (hb.inj h2).2) v⟩
/-- What Walk hands back. -/
def out : Except (Int × Int) Path → Path × Int × Int
  | .error e => (Path.none, e.1, e.2)
  | .ok p => (p, 0, 0)

end Go.Proofs.Ytldmlmojokicaaa
