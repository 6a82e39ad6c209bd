/-
  Two nodes that are not the same.
-/
import Derived.Test.YtkjdnpalafldhaaDoorShaM
import Derived.Test.YtkjdnpalafldhaaDoorAwake7
namespace Go.Proofs.YtkjdnpalafldhaaDoor
theorem lead_13 : nodeH (h1 1) (h1 3) ≠ nodeH (nodeH (h1 1) (h1 2)) (h1 3) := by
  refine node_ne ?_
  rw [nodeH_N]
  have e1 : hN (h1 1) = 256 ^ 31 := by decide +kernel
  have e2 : hN (h1 2) = 2 * 256 ^ 31 := by decide +kernel
  have e3 : hN (h1 3) = 3 * 256 ^ 31 := by decide +kernel
  rw [e1, e2, e3]
  decide +kernel

end Go.Proofs.YtkjdnpalafldhaaDoor
