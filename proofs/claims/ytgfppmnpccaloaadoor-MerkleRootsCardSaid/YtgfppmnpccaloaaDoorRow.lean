/-
  THE ROW's STEP, over any program: a law that writes nothing that was there and returns true.
-/
import Derived.Test.YtgfppmnpccaloaaDoorMem
import Derived.ProofKit
import Derived.OpenShut
namespace Go.Proofs.YtgfppmnpccaloaaDoor
open Go.ChangeShapes Go.WideShapes Go.ChangeAt Go.RowKit

section
variable {H : Type} {enc : TypeId × Value → H} {P : Program}

theorem trodAll_below (hl : laidOutB P = true) {W W' : World} (hb : Below W.heap.size W W') : ∀ (ts : List TypeId), (∀ t ∈ ts, P.readableRec t = true ∧ t < P.types.size) → ∀ (vs : List Value) (ds : List (DataW H)) (ps : List MemPlace),
    DataW.TrodAll enc P W 0 (fun _ => true) true ts vs ds ps → (∀ x ∈ ps, x.block < W.heap.size) → DataW.TrodAll enc P W' 0 (fun b => decide (b < W.heap.size)) true ts vs ds ps := by
  intro ts
  induction ts with
  | nil =>
    intro _ vs ds ps h _
    obtain ⟨rfl, rfl, rfl⟩ := trodAll_nil h
    exact trodAll_mk0
  | cons t ts ih =>
    intro hts vs ds ps h hlt
    obtain ⟨v0, vs0, d0, ds0, p0, q0, rfl, rfl, rfl, h0, r0⟩ := trodAll_cons h
    refine trodAll_cons_mk (Below.trod hl (hts t (by simp)).1 (hts t (by simp)).2 h0 hb (fun x hx => hlt x (by simp [hx]))) ?_
    exact ih (fun u hu => hts u (by simp [hu])) _ _ _ r0 (fun x hx => hlt x (by simp [hx]))

theorem Kp.toBelow {w w' : World} (h : Kp [] w w') : Below w.heap.size w w' := h.below (Nat.le_refl _) (by simp)

theorem law_post (hl : laidOutB P = true) {f : Func} {s : ChangeSpec} {apart fresh handsOn : Bool} {W W' : World} {args : Array Value} {ds gs : List (DataW H)} {before : List MemPlace} {bt : TypeId}
    (hts : ∀ t ∈ f.params.toList, P.readableRec t = true ∧ t < P.types.size) (hr : f.resultTypes = #[bt]) (hbt : P.underlying bt = some .bool) (hv : s.vars = [])
    (hW : DataW.Whole enc P f.params.toList s.vars apart W args.toList ds gs before) (h1 : (s.fn H (ds ++ gs)).results = [.lit (.bool true)]) (h2 : (s.fn H (ds ++ gs)).args = ds) (h3 : (s.fn H (ds ++ gs)).vars = [])
    (k : Kp [] W W') : s.post enc P f apart fresh handsOn false W args (.bool true) W' := by
  have hlt := hW.lt
  have hW' := hW
  obtain ⟨p, q, hA, hV, rfl, hfz, hnd⟩ := hW
  rw [hv] at hV
  obtain ⟨rfl, rfl⟩ := trodVars_none hV
  refine ⟨ds, [], _, [], p, [], hW', ?_, ?_, ?_, k.toBelow.frame _, fun h => by cases h⟩
  · rw [h1, hr]
    exact trodAll_cons_mk (shut_bool hbt _) trodAll_mk0
  · rw [h2]
    exact trodAll_below hl k.toBelow _ hts _ _ _ hA (fun x hx => hlt x (by simp [hx]))
  · rw [h3, hv]; rfl
end

end Go.Proofs.YtgfppmnpccaloaaDoor
