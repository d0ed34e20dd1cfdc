/- The reference's Same of two paths. -/
import Derived.Test.YtgaififhhffpfaaDoorPath
import Derived.Test.YtgaififhhffpfaaDoorMark
import Derived.Deep.QuietTactic
import Derived.Laws.StructEq
namespace Go.Proofs.YtgaififhhffpfaaDoor
open Go.RowKit

end Go.Proofs.YtgaififhhffpfaaDoor
