/-
  What the card's condition gives a walk: the four variables that compact's laws reach.
-/
import Derived.Test.YtalnkhgonfcabaaDoorDoor
import Derived.Test.YtalnkhgonfcabaaDoorTz
import Derived.Test.YtalnkhgonfcabaaDoorRefb
namespace Go.Proofs.YtalnkhgonfcabaaDoor
open Go.ChangeShapes Go.WideShapes Go.ChangeAt Go.RowKit

noncomputable def laidC : List (String × DataW Unit) := [("math/bits.deBruijn32tab", Rows.laid_math_bits_deBruijn32tab), ("math/bits.deBruijn64tab", Rows.laid_math_bits_deBruijn64tab), ("syngraph/sha.begin", Rows.laid_syngraph_sha_begin), ("syngraph/sha.table", Rows.laid_syngraph_sha_table)]
theorem trod_u8s {H : Type} {enc : TypeId × Value → H} {P : Program} {w : World} {base : Nat} {spare : Nat → Bool} {held : Bool} {fuel : Nat} {N : Nat} {t e : TypeId} {cs : List Value} {ns : List Nat} {p : List MemPlace}
    (ht : P.underlying t = some (.array N e)) (he : P.underlying e = some (.int .u8)) (hc : P.cellsOf e = 1) (hct : P.cellsOf t = N)
    (h : DataW.trod enc P w base spare held fuel t cs = some (.agg (ns.map fun (n : Nat) => .lit (.int .u8 (n : Int))), p)) : cs = ns.map (fun (n : Nat) => Value.int .u8 (n : Int)) := by
  obtain ⟨xs, m, rfl, hx, hlen, hn, hel⟩ := DataW.trod_array ht h
  simp only [Prod.mk.injEq, DataW.agg.injEq] at hx
  have hmap := hx.1
  have hnl : ns.length = N := by
    have := congrArg List.length hmap
    simpa [hn] using this
  apply List.ext_getElem?
  intro i
  by_cases hi : i < N
  · have h0 := hel i hi
    rw [hc, Nat.mul_one] at h0
    have hxi : xs[i]? = some xs[i] := List.getElem?_eq_getElem (by omega)
    rw [hxi] at h0
    obtain ⟨n, e1, e2, _⟩ := DataW.trod_int he h0
    have hm : (ns.map fun (n : Nat) => (DataW.lit (.int .u8 (n : Int)) : DataW H))[i]? = (xs.map (·.1))[i]? := by rw [hmap]
    rw [List.getElem?_map, List.getElem?_map, hxi, e2, List.getElem?_eq_getElem (by omega)] at hm
    simp only [Option.map_some, Option.some.injEq, DataW.lit.injEq, Lit.int.injEq, true_and] at hm
    have h1 : ((cs.drop i).take 1)[0]? = some (.int .u8 n) := by rw [e1]; rfl
    rw [List.getElem?_take, if_pos (by decide), List.getElem?_drop, Nat.add_zero] at h1
    rw [h1, List.getElem?_map, List.getElem?_eq_getElem (by omega), Option.map_some, hm]
  · rw [List.getElem?_eq_none (by omega), List.getElem?_eq_none (by simp; omega)]
theorem gT64 : Tryd.prog.globalNamed "math/bits.deBruijn64tab" = some 2 := by kernel_rfl
theorem eT64 : Rows.laid_math_bits_deBruijn64tab = (.agg (Lib.deBruijn64tab.map fun (n : Nat) => .lit (.int .u8 (n : Int))) : DataW Unit) := by kernel_rfl
theorem tT64 : (Tryd.prog.globals[2]?).map (·.type) = some 182 := by kernel_rfl
theorem of_laidC {W : World} (h : laidMetH Tryd.prog laidC W) : Tab W ∧ Laid W ∧ 4 ≤ W.heap.size := by
  rw [MakeChecks.laidMetH_plain _ _ _ (by kernel_rfl)] at h
  obtain ⟨ps, ⟨_, _, _, _, _, _, _, _, _, _, ⟨g2, t2, cs2, f2, p2, q2, hg2, ht2, hv2, hd2, ⟨g0, t0, cs0, f0, p0, q0, hg0, ht0, hv0, hd0, ⟨g1, t1, cs1, f1, p1, q1, hg1, ht1, hv1, hd1, _, _⟩, _⟩, _⟩, _⟩, _, _⟩ := h
  obtain rfl := Option.some.inj (gBegin.symm.trans hg0)
  obtain rfl := Option.some.inj (gTable.symm.trans hg1)
  obtain rfl := Option.some.inj (gT64.symm.trans hg2)
  rw [eBegin] at hd0
  rw [eTable] at hd1
  rw [eT64] at hd2
  obtain rfl := Option.some.inj (tBegin.symm.trans ht0)
  obtain rfl := Option.some.inj (tTable.symm.trans ht1)
  obtain rfl := Option.some.inj (tT64.symm.trans ht2)
  have h0 := trod_u32s Tryd.underlying176 Tryd.underlying162 (by kernel_rfl) (by kernel_rfl) hd0
  have h1 := trod_u32s Tryd.underlying183 Tryd.underlying162 (by kernel_rfl) (by kernel_rfl) hd1
  have h2 := trod_u8s Tryd.underlying182 Tryd.underlying5 (by kernel_rfl) (by kernel_rfl) hd2
  rw [ints_wvs] at h0 h1
  have hL : Laid W := by
    constructor
    · intro j v hj
      rw [← h0] at hj
      rw [Nat.zero_add, World.var?_cell hg0 hv0 j]
      simpa using hj
    · intro j v hj
      rw [← h1] at hj
      rw [Nat.zero_add, World.var?_cell hg1 hv1 j]
      simpa using hj
  have hT : Tab W := fun j hj => by
    rw [World.var?_cell hg2 hv2 j]
    have hl : Lib.deBruijn64tab.length = 64 := by decide
    have : cs2[j]? = some (.int .u8 (Lib.deBruijn64tab.getD j 0)) := by
      rw [show cs2[j]? = cs2.toList[j]? by simp, h2, List.getElem?_map, List.getElem?_eq_getElem (by omega), List.getD_eq_getElem?_getD, List.getElem?_eq_getElem (by omega)]
      rfl
    simpa using this
  refine ⟨hT, hL, ?_⟩
  have hc : W.cell? ⟨3, 0 + 0, none⟩ = some (wv (tableL.getD 0 0)) := hL.t 0 _ rfl
  exact World.block_lt_of_cell? _ _ hc
theorem door_metC (os : Os) (args : Array Value) : laidMetH Tryd.prog laidC ((World.doorLaid Tryd.prog 400 os).forCall (fun _ _ => 0) ⟨#[], args, []⟩).memory :=
  laidMetH_of_parts (laidMet_of_run' 8 (by kernel_rfl) (by kernel_rfl)) (by kernel_rfl)
theorem ivs_flat : ∀ l : List Int, ivs l = l.flatMap fun x => [Value.int .i64 x]
  | [] => rfl
  | x :: l => by rw [List.flatMap_cons, ← ivs_flat l]; rfl
theorem reads_ints {H : Type} {enc : TypeId × Value → H} {P : Program} {W : World} {t e : TypeId} {cs : List Value} (hu : P.underlying t = some (.slice e)) (he : P.underlying e = some (.int .i64)) (hc : P.cellsOf e = 1) (h : Reads enc P W t cs) :
    ∃ a c l, cs = [.slice a (l : List Int).length c] ∧ Rd W a l.length c 1 (ivs l) := by
  obtain ⟨a, c, l, h1, h2, _⟩ := open_rd (fun x : Int => [Value.int .i64 x]) (fun _ => True) hu hc (by decide) (fun _ => rfl) (fun cs hr => by
    obtain ⟨n, e1, _⟩ := reads_int he hr
    exact ⟨n, e1, trivial⟩) h
  refine ⟨a, c, l, h1, ?_⟩
  rw [ivs_flat]
  exact h2
end Go.Proofs.YtalnkhgonfcabaaDoor
