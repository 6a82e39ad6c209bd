/-
  law07's fixed answer.
-/
import Derived.Test.YtalnkhgonfcabaaDoorMerk4
import Derived.Test.YtalnkhgonfcabaaDoorEq
namespace Go.Proofs.YtalnkhgonfcabaaDoor
open Go.RowKit

theorem step_lit {P : Program} {ops : Array Oper} {o : Oper} {a : Act} {w : World} {K : Act → World → Prop} {Q : Exit → Act → World → Prop} {E : Prop} {t e : TypeId} {i : TypeInfo} {z : Value} {size bytes : Nat} (T : SlT P t e i z size bytes) (hw : Region.wanted o (yielded ops a.tmps) = true)
    {n : Nat} {parts : Array (Nat × Operand)} (ho : o.op = .buildSlice t n parts) (vs : List Value) (hn : n = vs.length) (hp : (parts.map fun (i, x) => (i, a.eval x)) = ((vs.zipIdx 0).map fun p => (p.2, p.1)).toArray)
    (hv : ∀ v ∈ vs, v.cells.size = size) (hb : vs.length * size ≤ 16777216)
    (h : K (a.put o.dst (.slice (some ⟨w.heap.size, 0, none⟩) n n)) (w.alloc (.cells (flatV vs).toArray e))) : if Region.wanted o (yielded ops a.tmps) = true then Oper.wp P o a w K Q else E := by
  rw [if_pos hw]
  have hr := run_buildSlice_all (w := w) T vs hv hb
  unfold Oper.wp execOp
  simp only [ho, hp, hn, Sem.run_bind, Sem.run_pure, Result.andThen_ok, hr]
  subst hn
  exact h

section
variable {P : Program} {ops : Array Oper} {Q : Exit → Act → World → Prop} {md : Region.Mode} {S : World → Prop}
/-- As 'wpAnyH_take', the slot written out. -/
theorem takeD {i : Nat} {oi : Oper} {dst : Option Tmp} {v : Value} {fuel : Nat} {listed : Array Bool} {a : Act} {w : World} (hi : ops[i]? = some oi) (hd : oi.dst = dst)
    (hs : Region.noSelect ops = true) (hf : Region.free md ops listed i = true) (hr : (Region.ready md ops listed).contains i = true)
    (hQ : ∀ c a w, Q (.panic c) (a.put oi.dst v) w → Q (.panic c) a w) (hy : YieldsIf P ops S oi v a) (hS : S w)
    (h : wpAnyH P md ops Q S fuel (listed.setIfInBounds i true) (a.put dst v) w) : wpAnyH P md ops Q S (fuel + 1) listed a w :=
  wpAnyH_take hi hs hf hr hQ hy hS (by rw [hd]; exact h)
end

theorem sp_2 : sp 2 = 1 := by decide +kernel
theorem sp_3 : sp 3 = 2 := by decide +kernel
theorem rootH_two (a b : Hsh) : rootH [a, b] = nodeH a b := by
  have h := rootH_split [a, b] (by simp) (by simp)
  rw [show [a, b].length = 2 from rfl, sp_2] at h
  exact h
theorem rootH_three (a b c : Hsh) : rootH [a, b, c] = nodeH (nodeH a b) c := by
  have h := rootH_split [a, b, c] (by simp) (by simp)
  rw [show [a, b, c].length = 3 from rfl, sp_3] at h
  rw [h, show [a, b, c].take 2 = [a, b] from rfl, rootH_two]
  rfl
theorem pathH_three (a b c : Hsh) : pathH [a, b, c] 2 = [nodeH a b] := by
  have h := besH_right [a, b, c] 2 (by simp) (by simp) (by rw [show [a, b, c].length = 3 from rfl, sp_3]; decide)
  rw [show [a, b, c].length = 3 from rfl, sp_3] at h
  unfold pathH
  rw [h, besH_one _ _ (by simp), show [a, b, c].take 2 = [a, b] from rfl, rootH_two]
  rfl
/-- A hash that begins with this byte, and has no other. -/
def h1 (b : UInt8) : Hsh := ⟨b :: List.replicate 31 0, by simp⟩

theorem range_hv {w : World} {g : Nat} {x : Hsh} {t : TypeId} {fr : Nat × Nat} (h : w.heap[g]? = some (.cells (hvA x) t fr)) : w.rangeAt g 0 (hcs x) := fun j v hv => by
  rw [cell_of_row w g _ _ _ _ h, Nat.zero_add]; simpa [hvA] using hv

end Go.Proofs.YtalnkhgonfcabaaDoor

