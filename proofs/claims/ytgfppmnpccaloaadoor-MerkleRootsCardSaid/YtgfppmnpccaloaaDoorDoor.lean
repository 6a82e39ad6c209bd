/-
  What the card's condition gives a walk: the package's two variables.
-/
import Derived.Test.YtgfppmnpccaloaaDoorSha2
import Derived.Test.YtgfppmnpccaloaaDoorRow
import Derived.Test.YtgfppmnpccaloaaDoorOpen
import Derived.Test.YtgfppmnpccaloaaDoorRows
import Derived.LaidMore
import Derived.MakeChecks
import Derived.LaidLaws
import Derived.LaidHandle
namespace Go.Proofs.YtgfppmnpccaloaaDoor
open Go.ChangeShapes Go.WideShapes Go.ChangeAt Go.RowKit

noncomputable def laidL : List (String × DataW Unit) := [("syngraph/sha.begin", Rows.laid_syngraph_sha_begin), ("syngraph/sha.table", Rows.laid_syngraph_sha_table)]
def ints (l : List W32) : List Int := l.map fun x => (wn x : Int)

theorem trod_u32s {H : Type} {enc : TypeId × Value → H} {P : Program} {w : World} {base : Nat} {spare : Nat → Bool} {held : Bool} {fuel : Nat} {N : Nat} {t e : TypeId} {cs : List Value} {ns : List Int} {p : List MemPlace}
    (ht : P.underlying t = some (.array N e)) (he : P.underlying e = some (.int .u32)) (hc : P.cellsOf e = 1) (hct : P.cellsOf t = N)
    (h : DataW.trod enc P w base spare held fuel t cs = some (.agg (ns.map fun n => .lit (.int .u32 n)), p)) : cs = ns.map (Value.int .u32) := by
  obtain ⟨xs, m, rfl, hx, hlen, hn, hel⟩ := DataW.trod_array ht h
  simp only [Prod.mk.injEq, DataW.agg.injEq] at hx
  have hmap := hx.1
  have hnl : ns.length = N := by
    have := congrArg List.length hmap
    simpa [hn] using this
  apply List.ext_getElem?
  intro i
  by_cases hi : i < N
  · have h0 := hel i hi
    rw [hc, Nat.mul_one] at h0
    have hxi : xs[i]? = some xs[i] := List.getElem?_eq_getElem (by omega)
    rw [hxi] at h0
    obtain ⟨n, e1, e2, _⟩ := DataW.trod_int he h0
    have hm : (ns.map fun n => (DataW.lit (.int .u32 n) : DataW H))[i]? = (xs.map (·.1))[i]? := by rw [hmap]
    rw [List.getElem?_map, List.getElem?_map, hxi, e2, List.getElem?_eq_getElem (by omega)] at hm
    simp only [Option.map_some, Option.some.injEq, DataW.lit.injEq, Lit.int.injEq, true_and] at hm
    have h1 : ((cs.drop i).take 1)[0]? = some (.int .u32 n) := by rw [e1]; rfl
    rw [List.getElem?_take, if_pos (by decide), List.getElem?_drop, Nat.add_zero] at h1
    rw [h1, List.getElem?_map, List.getElem?_eq_getElem (by omega), Option.map_some, hm]
  · rw [List.getElem?_eq_none (by omega), List.getElem?_eq_none (by simp; omega)]

theorem gBegin : Tryd.prog.globalNamed "syngraph/sha.begin" = some 0 := by kernel_rfl
theorem gTable : Tryd.prog.globalNamed "syngraph/sha.table" = some 1 := by kernel_rfl
theorem eBegin : Rows.laid_syngraph_sha_begin = (.agg ((ints beginL).map fun n => .lit (.int .u32 n)) : DataW Unit) := by kernel_rfl
theorem eTable : Rows.laid_syngraph_sha_table = (.agg ((ints tableL).map fun n => .lit (.int .u32 n)) : DataW Unit) := by kernel_rfl
theorem tBegin : (Tryd.prog.globals[0]?).map (·.type) = some 50 := by kernel_rfl
theorem tTable : (Tryd.prog.globals[1]?).map (·.type) = some 57 := by kernel_rfl
theorem ints_wvs (l : List W32) : (ints l).map (Value.int .u32) = wvs l := by simp [ints, wvs, wv]

theorem of_laid {W : World} (h : laidMetH Tryd.prog laidL W) : Laid W ∧ 2 ≤ W.heap.size := by
  rw [MakeChecks.laidMetH_plain _ _ _ (by kernel_rfl)] at h
  obtain ⟨ps, ⟨g0, t0, cs0, f0, p0, q0, hg0, ht0, hv0, hd0, ⟨g1, t1, cs1, f1, p1, q1, hg1, ht1, hv1, hd1, _, _⟩, _⟩, _, _⟩ := h
  obtain rfl := Option.some.inj (gBegin.symm.trans hg0)
  obtain rfl := Option.some.inj (gTable.symm.trans hg1)
  rw [eBegin] at hd0
  rw [eTable] at hd1
  obtain rfl := Option.some.inj (tBegin.symm.trans ht0)
  obtain rfl := Option.some.inj (tTable.symm.trans ht1)
  have h0 := trod_u32s Tryd.underlying50 Tryd.underlying49 (by kernel_rfl) (by kernel_rfl) hd0
  have h1 := trod_u32s Tryd.underlying57 Tryd.underlying49 (by kernel_rfl) (by kernel_rfl) hd1
  rw [ints_wvs] at h0 h1
  have hL : Laid W := by
    constructor
    · intro j v hj
      rw [← h0] at hj
      rw [Nat.zero_add, World.var?_cell hg0 hv0 j]
      simpa using hj
    · intro j v hj
      rw [← h1] at hj
      rw [Nat.zero_add, World.var?_cell hg1 hv1 j]
      simpa using hj
  · refine ⟨hL, ?_⟩
    have hc : W.cell? ⟨1, 0 + 0, none⟩ = some (wv (tableL.getD 0 0)) := hL.t 0 _ rfl
    exact World.block_lt_of_cell? _ _ hc

/-- The door's own heap meets the condition. -/
theorem door_met (os : Os) (args : Array Value) : laidMetH Tryd.prog laidL ((World.doorLaid Tryd.prog 400 os).forCall (fun _ _ => 0) ⟨#[], args, []⟩).memory :=
  laidMetH_of_parts (laidMet_of_run' 8 (by kernel_rfl) (by kernel_rfl)) (by kernel_rfl)
theorem own : ownKnob Tryd.prog.godebug = none := by kernel_rfl
theorem laidOut : laidOutB Tryd.prog = true := by kernel_rfl
end Go.Proofs.YtgfppmnpccaloaaDoor
