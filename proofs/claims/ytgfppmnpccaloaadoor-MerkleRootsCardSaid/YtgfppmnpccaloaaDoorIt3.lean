/-
  merkle.Each; law07's root of any list. (Printed by sx_roots.py.)
-/
import Derived.Test.YtgfppmnpccaloaaDoorIt2
import Derived.Test.YtgfppmnpccaloaaDoorRoot7b
namespace Go.Proofs.YtgfppmnpccaloaaDoor
open Go.RowKit

set_option maxRecDepth 100000 in
theorem each_any (a : Option Addr) (n c : Nat) (w0 : World) :
    Calls Tryd.prog 7 #[.slice a n c] w0 fun e w' => ∃ g, e = .returned (.func (.func 13) #[] [.pointer (some ⟨g, 0, none⟩)].toArray) ∧ St [] w0 [⟨g, sgA [(1, .slice a n c)], 22⟩] [] w' := by
  refine calls_st (F := []) (args := [.slice a n c]) Tryd.func7 rfl (n := 4) rfl rfl ?_
  intro ac w HF HS
  refine wp_seq ?_
  refine wp_region_lit ?_
  refine sx_ef HF (ef_box (n := 1) HS rfl) rfl rfl ?_; clear HF HS ac; rintro _ w ac ⟨g1, rfl, HS⟩ HF
  refine sx_y HF HS (yl_assign rfl) rfl rfl ?_; clear HF ac; intro ac HF
  refine wpList_nil ?_
  refine then_n ?_
  refine wp_seq ?_
  refine wp_region_lit ?_
  refine sx_y HF HS (yl_makeFunc evs_nil (evs_cons rfl evs_nil)) rfl rfl ?_; clear HF ac; intro ac HF
  refine sx_y HF HS (yl_assign rfl) rfl rfl ?_; clear HF ac; intro ac HF
  refine wpList_nil ?_
  refine then_n ?_
  refine wp_ret ?_
  exact rt1 rfl HF HS rfl ⟨g1, rfl, HS⟩

theorem root7_all (l : List Hsh) (a : Option Addr) (c : Nat) (w : World) (hr : Rd w a l.length c 32 (hsc l)) (hll : l.length ≤ 1000) (hL : Laid w) (h2 : 2 ≤ w.heap.size) :
    Calls Tryd.prog 5 #[.slice a l.length c] w fun e w' => e = .returned (hv (rootH l)) ∧ Kp [] w w' := by
  by_cases hne : l = []
  · subst hne; exact root7_nil a c w hL h2
  · exact root7_any l a c w hr hll hne hL h2
section
variable {P : Program} {S : World → Prop} {m : List (Nat × Value)} {x y : Operand}
theorem yl_neFn {t : TypeId} {ps rs : List TypeId} {v : Bool} (hu : P.underlying t = some (.func ps.toArray rs.toArray v)) {f : Fn} {b1 b2 : Array Value} (hx : ev m x = some (.func f b1 b2)) (hy : ev m y = some .nilFunc) : Yl P S (.binOp .neq t x y t) m (.bool true) :=
  yl_bin hx hy fun w _ => by
    have h1 : (Op.equal t (.func f b1 b2) .nilFunc).run P w = .ok false w := by
      show (Op.equalIn (9999 + 1) t (.func f b1 b2) .nilFunc).run P w = .ok false w
      generalize 9999 = q
      simp [Op.equalIn, run_underlying hu]
    simp [eqGuard, binOp, h1]
end

end Go.Proofs.YtgfppmnpccaloaaDoor
