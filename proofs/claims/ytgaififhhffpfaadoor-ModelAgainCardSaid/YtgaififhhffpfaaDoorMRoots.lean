/- ModelRoots's walk. -/
import Derived.Test.YtgaififhhffpfaaDoorOps
import Derived.Laws.StructEq
namespace Go.Proofs.YtgaififhhffpfaaDoor
open Go.RowKit Go.Shelf
theorem puts_len' (l : List (Int × Int × Nat)) : (puts l).length = 128 := by
  unfold puts
  have : ∀ (l : List (Int × Int × Nat)) (m : List Nat), (l.foldl put1 m).length = m.length := by
    intro l
    induction l with
    | nil => intro m; rfl
    | cons x l ih => intro m; rw [List.foldl_cons, ih]; unfold put1; exact wr_len' _ _ _ _ _
  rw [this]; exact List.length_replicate

end Go.Proofs.YtgaififhhffpfaaDoor
