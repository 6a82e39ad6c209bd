/-
  law07's root.
-/
import Derived.Test.YtalnkhgonfcabaaDoorRefc
import Derived.Test.YtalnkhgonfcabaaDoorAwake7
namespace Go.Proofs.YtalnkhgonfcabaaDoor
open Go.RowKit

theorem own_take {w : World} {base : Nat} {e : TypeId} {size : Nat} {a : Option Addr} {n c : Nat} {xs : List Value} (h : w.ownsRow base e size (.slice a n c) n xs) (m : Nat) (hm : m ≤ n) :
    w.ownsRow base e size (.slice a m c) m (xs.take (m * size)) := by
  obtain ⟨hl, h⟩ := h
  refine ⟨?_, ?_⟩
  · rw [List.length_take, hl]; exact Nat.min_eq_left (Nat.mul_le_mul_right _ hm)
  · rcases h with ⟨hv, hn⟩ | ⟨g, cap, cur, hv, hg, hb, hc, hm2, hs, ht⟩
    · subst hn
      obtain rfl : m = 0 := by omega
      exact .inl ⟨hv, rfl⟩
    · simp only [Value.slice.injEq] at hv
      obtain ⟨rfl, _, rfl⟩ := hv
      refine .inr ⟨g, c, cur, rfl, hg, hb, by omega, hm2, hs, ?_⟩
      rw [← ht, List.take_take, Nat.min_eq_left (Nat.mul_le_mul_right _ hm)]

theorem step_get_mid {P : Program} {ops : Array Oper} {o : Oper} {a : Act} {w : World} {K : Act → World → Prop} {Q : Exit → Act → World → Prop} {E : Prop} {ty : TypeId} {n : Nat} (T : ArT P ty n) (hgd : o.guard = none) {x : Operand} (ho : o.op = .load ty x)
    {b off : Nat} {cs : List Value} (hc : w.rangeAt b off cs) (hn : cs.length = n) (hx : a.eval x = .pointer (some ⟨b, off, none⟩))
    (h : K (a.put o.dst (.agg cs.toArray)) w) : if Region.wanted o (yielded ops a.tmps) = true then Oper.wp P o a w K Q else E := by
  have hw : Region.wanted o (yielded ops a.tmps) = true := by simp [Region.wanted, hgd]
  rw [if_pos hw]
  obtain ⟨⟨k, e, hu⟩, hs⟩ := T
  have hr : (Instr.loadAt ty (.pointer (some ⟨b, off, none⟩))).run P w = .ok (.agg cs.toArray) w := run_loadAt_mid _ _ _ _ cs _ hc hu rfl (by rw [hs, hn])
  unfold Oper.wp execOp
  simp only [ho, hx, Sem.run_bind, hr, Result.andThen_ok, Sem.run_pure]
  exact h

end Go.Proofs.YtalnkhgonfcabaaDoor
