/-
  law07's root.
-/
import Derived.Test.YtgfppmnpccaloaaDoorRefc
import Derived.Test.YtgfppmnpccaloaaDoorAwake7
namespace Go.Proofs.YtgfppmnpccaloaaDoor
open Go.RowKit

theorem own_take {w : World} {base : Nat} {e : TypeId} {size : Nat} {a : Option Addr} {n c : Nat} {xs : List Value} (h : w.ownsRow base e size (.slice a n c) n xs) (m : Nat) (hm : m ≤ n) :
    w.ownsRow base e size (.slice a m c) m (xs.take (m * size)) := by
  obtain ⟨hl, h⟩ := h
  refine ⟨?_, ?_⟩
  · rw [List.length_take, hl]; exact Nat.min_eq_left (Nat.mul_le_mul_right _ hm)
  · rcases h with ⟨hv, hn⟩ | ⟨g, cap, cur, hv, hg, hb, hc, hm2, hs, ht⟩
    · subst hn
      obtain rfl : m = 0 := by omega
      exact .inl ⟨hv, rfl⟩
    · simp only [Value.slice.injEq] at hv
      obtain ⟨rfl, _, rfl⟩ := hv
      refine .inr ⟨g, c, cur, rfl, hg, hb, by omega, hm2, hs, ?_⟩
      rw [← ht, List.take_take, Nat.min_eq_left (Nat.mul_le_mul_right _ hm)]

theorem step_get_mid {P : Program} {ops : Array Oper} {o : Oper} {a : Act} {w : World} {K : Act → World → Prop} {Q : Exit → Act → World → Prop} {E : Prop} {ty : TypeId} {n : Nat} (T : ArT P ty n) (hgd : o.guard = none) {x : Operand} (ho : o.op = .load ty x)
    {b off : Nat} {cs : List Value} (hc : w.rangeAt b off cs) (hn : cs.length = n) (hx : a.eval x = .pointer (some ⟨b, off, none⟩))
    (h : K (a.put o.dst (.agg cs.toArray)) w) : if Region.wanted o (yielded ops a.tmps) = true then Oper.wp P o a w K Q else E := by
  have hw : Region.wanted o (yielded ops a.tmps) = true := by simp [Region.wanted, hgd]
  rw [if_pos hw]
  obtain ⟨⟨k, e, hu⟩, hs⟩ := T
  have hr : (Instr.loadAt ty (.pointer (some ⟨b, off, none⟩))).run P w = .ok (.agg cs.toArray) w := run_loadAt_mid _ _ _ _ cs _ hc hu rfl (by rw [hs, hn])
  unfold Oper.wp execOp
  simp only [ho, hx, Sem.run_bind, hr, Result.andThen_ok, Sem.run_pure]
  exact h

theorem root7_nil (a : Option Addr) (c : Nat) (w : World) (hL : Laid w) (h2 : 2 ≤ w.heap.size) :
    Calls Tryd.prog 5 #[.slice a 0 c] w fun e w' => e = .returned (.agg (hcs (rootH [])).toArray) ∧ Kp [] w w' := by
  have k0 := (Kp.refl [] w).alloc (.cells (hvA zeroH) 24)
  have HGR := Lib.hid (heap_alloc_new w (.cells (hvA zeroH) 24))
  obtain ⟨w0, hw0⟩ : ∃ w0, w0 = w.alloc (.cells (hvA zeroH) 24) := ⟨_, rfl⟩
  rw [← hw0] at k0 HGR
  have HL := Lib.hid hL
  have K0 := Lib.hid k0
  have HW0 := Lib.hid hw0
  have hlt : w.heap.size < w0.heap.size := by rw [hw0]; simp
  have HLT := Lib.hid hlt
  clear hL k0 hw0 hlt
  go_enter Tryd.func5, Tryd.ntmps5
  go_wp2_with fail
  rw [zeroH_lit, show w.alloc (.cells (hvA zeroH) 24) = w0 from HW0.out.symm]
  refine (sum_any none 0 [] w0 (nil_rd _ _) (HL.out.below K0.out) (Nat.le_trans h2 K0.out.size)).mono ?_
  rintro e w3 ⟨rfl, k3⟩
  have HGR3 := Lib.hid ((k3.block w.heap.size HLT.out (by simp)).trans HGR.out)
  have K3 := Lib.hid (K0.out.trans k3 (by simp))
  clear k3
  go_wp2_with (refine wpList_set Tryd.thash rfl rfl HGR3.out (hvA_size _) (hvA_size _) (hvA_one _) rfl rfl ?_; intro w9 h9 k9 s9)
  refine ret_block Tryd.thash rfl h9 (hvA_size _) rfl rfl ⟨rfl, ?_⟩
  exact K3.out.trans k9 (fun x hx hlt => by simp at hx; omega)
end Go.Proofs.YtgfppmnpccaloaaDoor
