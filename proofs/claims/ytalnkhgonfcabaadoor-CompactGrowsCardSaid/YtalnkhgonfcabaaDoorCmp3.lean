/-
  slices.Backward; compact's Root. (Printed by sx_cmp3.py.)
-/
import Derived.Test.YtalnkhgonfcabaaDoorCmp2
import Derived.Test.YtalnkhgonfcabaaDoorIt1
namespace Go.Proofs.YtalnkhgonfcabaaDoor
open Go.RowKit

set_option maxRecDepth 100000 in
theorem backward_any (a : Option Addr) (n c : Nat) (w0 : World) :
    Calls Tryd.prog 72 #[.slice a n c] w0 fun e w' => ∃ g, e = .returned (.func (.func 116) #[] [.pointer (some ⟨g, 0, none⟩)].toArray) ∧ St [] w0 [⟨g, sgA [(1, .slice a n c)], 22⟩] [] w' := by
  refine calls_st (F := []) (args := [.slice a n c]) Tryd.func72 rfl (n := 4) rfl rfl ?_
  intro ac w HF HS
  refine wp_seq ?_
  refine wp_region_lit ?_
  refine sx_ef HF (ef_box (n := 1) HS rfl) rfl rfl ?_; clear HF HS ac; rintro _ w ac ⟨g1, rfl, HS⟩ HF
  refine sx_y HF HS (yl_assign rfl) rfl rfl ?_; clear HF ac; intro ac HF
  refine wpList_nil ?_
  refine then_n ?_
  refine wp_seq ?_
  refine wp_region_lit ?_
  refine sx_y HF HS (yl_makeFunc evs_nil (evs_cons rfl evs_nil)) rfl rfl ?_; clear HF ac; intro ac HF
  refine sx_y HF HS (yl_assign rfl) rfl rfl ?_; clear HF ac; intro ac HF
  refine wpList_nil ?_
  refine then_n ?_
  refine wp_ret ?_
  exact rt1 rfl HF HS rfl ⟨g1, rfl, HS⟩

end Go.Proofs.YtalnkhgonfcabaaDoor
