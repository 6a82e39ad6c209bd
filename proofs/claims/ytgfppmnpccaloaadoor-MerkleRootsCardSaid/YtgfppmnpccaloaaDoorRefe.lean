/-
  The reference's Path, walked: the pairs of rpath.
-/
import Derived.Test.YtgfppmnpccaloaaDoorRefd
namespace Go.Proofs.YtgfppmnpccaloaaDoor
open Go.RowKit

theorem flatV_pair (p : Nat × Nat) : flatV [pairV p] = pairC p := by simp [flatV, pairV, Value.cells]
end Go.Proofs.YtgfppmnpccaloaaDoor
