/-
  proof.Lead: the root that a path leads to.
-/
import Derived.Test.YtgfppmnpccaloaaDoorPrf1
import Derived.Test.YtgfppmnpccaloaaDoorRoot7
namespace Go.Proofs.YtgfppmnpccaloaaDoor
open Go.RowKit

/-- The end of a function with a result in a block and one in a slot. -/
theorem ret_block_tmp {P : Program} {fn : Func} {R : Ending → World → Prop} {a : Act} {w : World} {p u : Tmp} {ty : TypeId} {n : Nat} (T : ArT P ty n) (hf : fn.results = #[.cell p ty, .tmp u])
    {g : Nat} {t : TypeId} {cs : Array Value} {fr : Nat × Nat} (hg : w.heap[g]? = some (.cells cs t fr)) (hn : cs.size = n) (hp : a.tmps.getD p undef = .pointer (some ⟨g, 0, none⟩)) (hd : a.defers = [])
    {v : Value} (hv : a.tmps.getD u undef = v) (hR : R (.returned (.tuple #[.agg cs, v])) w) : bodyPost P fn R .ret a w := by
  obtain ⟨⟨k, e, hu⟩, hs⟩ := T
  have hp' : a.tmps[p]?.getD undef = .pointer (some ⟨g, 0, none⟩) := by simpa using hp
  have hv' : a.tmps[u]?.getD undef = v := by simpa using hv
  refine bodyPost_ret (v := .tuple #[.agg cs, v]) ?_ hd hR
  simp [results, hf, hp', hv', asAddr, run_loadVar_row w g t ty cs fr _ hg hu rfl (by rw [hs, hn])]
/-- The end of a function with two results in blocks and one in a slot. -/
theorem ret_block2_tmp {P : Program} {fn : Func} {R : Ending → World → Prop} {a : Act} {w : World} {p q u : Tmp} {ty : TypeId} {n : Nat} (T : ArT P ty n) (hf : fn.results = #[.cell p ty, .cell q ty, .tmp u])
    {g : Nat} {t : TypeId} {cs : Array Value} {fr : Nat × Nat} (hg : w.heap[g]? = some (.cells cs t fr)) (hn : cs.size = n) (hp : a.tmps.getD p undef = .pointer (some ⟨g, 0, none⟩))
    {g2 : Nat} {t2 : TypeId} {cs2 : Array Value} {fr2 : Nat × Nat} (hg2 : w.heap[g2]? = some (.cells cs2 t2 fr2)) (hn2 : cs2.size = n) (hq : a.tmps.getD q undef = .pointer (some ⟨g2, 0, none⟩)) (hd : a.defers = [])
    {v : Value} (hv : a.tmps.getD u undef = v) (hR : R (.returned (.tuple #[.agg cs, .agg cs2, v])) w) : bodyPost P fn R .ret a w := by
  obtain ⟨⟨k, e, hu⟩, hs⟩ := T
  have hp' : a.tmps[p]?.getD undef = .pointer (some ⟨g, 0, none⟩) := by simpa using hp
  have hq' : a.tmps[q]?.getD undef = .pointer (some ⟨g2, 0, none⟩) := by simpa using hq
  have hv' : a.tmps[u]?.getD undef = v := by simpa using hv
  refine bodyPost_ret (v := .tuple #[.agg cs, .agg cs2, v]) ?_ hd hR
  simp [results, hf, hp', hq', hv', asAddr, run_loadVar_row w g t ty cs fr _ hg hu rfl (by rw [hs, hn]), run_loadVar_row w g2 t2 ty cs2 fr2 _ hg2 hu rfl (by rw [hs, hn2])]


theorem alloc2 (w : World) (x y : Array Value) (t u : TypeId) : ((w.alloc (.cells x t)).alloc (.cells y u)).heap[w.heap.size + 1]? = some (.cells y u (0, 0)) := by
  have h := heap_alloc_new (w.alloc (.cells x t)) (.cells y u)
  rw [heap_alloc_size] at h
  exact h
theorem alloc1 (w : World) (x y : Array Value) (t u : TypeId) : ((w.alloc (.cells x t)).alloc (.cells y u)).heap[w.heap.size]? = some (.cells x t (0, 0)) :=
  (Below.heap_alloc _ _ _ (by simp)).trans (heap_alloc_new w _)

theorem alloc3 (w : World) (x y z : Array Value) (t u v : TypeId) : (((w.alloc (.cells x t)).alloc (.cells y u)).alloc (.cells z v)).heap[w.heap.size + 1 + 1]? = some (.cells z v (0, 0)) := by
  have h := alloc2 (w.alloc (.cells x t)) y z u v
  rw [heap_alloc_size] at h
  exact h


/-- What Lead returns. -/
def leadV : Option Hsh → Value
  | some r => .tuple #[.agg (hcs r).toArray, .int .i64 0]
  | none => .tuple #[.agg (hcs zeroH).toArray, .int .i64 22]

end Go.Proofs.YtgfppmnpccaloaaDoor
