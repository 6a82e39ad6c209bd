/-
  proof.In: is a leaf in a list?
-/
import Derived.Test.YtgfppmnpccaloaaDoorPrf2
namespace Go.Proofs.YtgfppmnpccaloaaDoor
open Go.RowKit

def inV (root : Hsh) : Option Hsh → Int
  | some r => if r = root then 0 else 22
  | none => 22


end Go.Proofs.YtgfppmnpccaloaaDoor
