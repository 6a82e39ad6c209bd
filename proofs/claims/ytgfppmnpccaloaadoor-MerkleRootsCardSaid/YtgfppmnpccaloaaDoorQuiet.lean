import Derived.Test.YtgfppmnpccaloaaDoorMem
import Derived.Deep.QuietTactic
import Derived.BigQuiet
import Derived.Maps.RangeWalk
namespace Go.Proofs.YtgfppmnpccaloaaDoor
open Go.RowKit

theorem drewN_rd {w : World} {a : Option Addr} {n c size : Nat} {xs : List Value} (h : Rd w a n c size xs) (k : Nat) : Rd (w.drewN k) a n c size xs := ⟨h.len, h.le, h.max, h.nil, h.cells⟩
theorem Kp.drewN {F : List Nat} {a w : World} (h : Kp F a w) (n : Nat) : Kp F a (w.drewN n) := ⟨h.os, h.tape, h.output, h.size, h.block⟩
/-- A new block, and a store into it. -/
theorem kp_boxed {w w' : World} {o : Obj} (k : Kp [w.heap.size] (w.alloc o) w') (s : w'.heap.size = (w.alloc o).heap.size) : Kp [] w w' :=
  ⟨k.os, k.tape, k.output, by rw [s]; simp, fun i hi _ => (k.block i (by simp; omega) (by simp; omega)).trans (heap_alloc_old w _ hi)⟩

end Go.Proofs.YtgfppmnpccaloaaDoor
