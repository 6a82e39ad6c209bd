/-
  bytes.Equal, Collision.Right, and the law's own right. (Printed by sx_coll1.py.)
-/
import Derived.Test.YtalnkhgonfcabaaDoorSx
import Derived.Test.YtalnkhgonfcabaaDoorTag
namespace Go.Proofs.YtalnkhgonfcabaaDoor
open Go.RowKit

/-! ### Types -/
namespace Coll1
theorem fd85x0 : FdT Tryd.prog 85 0 0 := FdT.mk' (k := 0) Tryd.underlying85 (by kernel_rfl)
theorem fd85x1 : FdT Tryd.prog 85 1 1 := FdT.mk' (k := 0) Tryd.underlying85 (by kernel_rfl)
theorem sc39 : ScT Tryd.prog 39 := ScT.mk' Tryd.underlying39 rfl (by kernel_rfl)
end Coll1
open Go.Proofs.YtalnkhgonfcabaaDoor.Coll1

/-- A Collision, part by part. -/
abbrev coS (a : Option Addr) (n c : Nat) (b : Option Addr) (k e : Nat) : List (Nat × Value) := [(1, .slice a n c), (1, .slice b k e)]
def rightB (xs ys : List UInt8) : Bool := !decide (xs = ys) && decide (shaH xs = shaH ys)
theorem rightB_eq {xs ys : List UInt8} (h : xs = ys) : rightB xs ys = false := by simp [rightB, h]
theorem rightB_ne {xs ys : List UInt8} (h : ¬ xs = ys) : rightB xs ys = decide (shaH xs = shaH ys) := by simp [rightB, h]

set_option maxRecDepth 100000 in
theorem bytesEq_any (xs ys : List UInt8) (a b : Option Addr) (c d : Nat) (w0 : World) (hx : Rd w0 a xs.length c 1 (bcs xs)) (hy : Rd w0 b ys.length d 1 (bcs ys)) :
    Calls Tryd.prog 100 #[.slice a xs.length c, .slice b ys.length d] w0 fun e w' => e = .returned (.bool (decide (xs = ys))) ∧ Kp [] w0 w' := by
  refine calls_st (F := []) (args := [.slice a xs.length c, .slice b ys.length d]) Tryd.func100 rfl (n := 10) rfl rfl ?_
  intro ac w HF HS
  refine wp_seq ?_
  refine wp_region_lit ?_
  refine sx_y HF HS (yl_assign rfl) rfl rfl ?_; clear HF ac; intro ac HF
  refine wpList_nil ?_
  refine then_n ?_
  refine wp_seq ?_
  refine wp_region_lit ?_
  refine sx_y HF HS (yl_move rfl) rfl rfl ?_; clear HF ac; intro ac HF
  refine sx_y HF HS (yl_str Tryd.underlying39 Tryd.underlying5 Tryd.underlying9 rfl (fun w h => hx.below h.kp)) rfl rfl ?_; clear HF ac; intro ac HF
  refine sx_y HF HS (yl_move rfl) rfl rfl ?_; clear HF ac; intro ac HF
  refine sx_y HF HS (yl_str Tryd.underlying39 Tryd.underlying5 Tryd.underlying9 rfl (fun w h => hy.below h.kp)) rfl rfl ?_; clear HF ac; intro ac HF
  refine sx_y HF HS (yl_eqS rfl rfl rfl) rfl rfl ?_; clear HF ac; intro ac HF
  refine sx_y HF HS (yl_assign rfl) rfl rfl ?_; clear HF ac; intro ac HF
  refine wpList_nil ?_
  refine then_n ?_
  refine wp_ret ?_
  exact rt1 rfl HF HS rfl ⟨rfl, HS.kp⟩

set_option maxRecDepth 100000 in
theorem right_eq (xs ys : List UInt8) (a b : Option Addr) (c d : Nat) (w0 : World) (hx : Rd w0 a xs.length c 1 (bcs xs)) (hy : Rd w0 b ys.length d 1 (bcs ys)) (h : xs = ys) (_hL : Laid w0) (_h2 : 4 ≤ w0.heap.size) :
    Calls Tryd.prog 135 #[.agg (sgA (coS a xs.length c b ys.length d))] w0 fun e w' => e = .returned (.bool (rightB xs ys)) ∧ Kp [] w0 w' := by
  refine calls_st (F := []) (args := [.agg (sgA (coS a xs.length c b ys.length d))]) Tryd.func135 rfl (n := 18) rfl rfl ?_
  intro ac w HF HS
  refine wp_seq ?_
  refine wp_region_lit ?_
  refine sx_ef HF (ef_boxs HS rfl) rfl rfl ?_; clear HF HS ac; rintro _ w ac ⟨g1, rfl, HS⟩ HF
  refine sx_y HF HS (yl_assign rfl) rfl rfl ?_; clear HF ac; intro ac HF
  refine wpList_nil ?_
  refine then_n ?_
  refine wp_seq ?_
  refine dx_region 16 (by kernel_rfl) HS.drew (fun _ h => h) ?_; clear HS; intro w HS
  have HH := HS
  refine dx_p (i := 0) HF rfl (by kernel_rfl) (by kernel_rfl) (by kernel_rfl) (by decide) (fun _ _ _ h => h) (fun _ => HH) (fa_st fd85x0 rfl) rfl rfl ?_; clear HF ac; intro ac HF
  refine dx_k (i := 1) HF rfl (by kernel_rfl) (by kernel_rfl) (by kernel_rfl) (by kernel_rfl) (by kernel_rfl) (fun _ _ _ h => h) HH (ld_sc sc39 rfl rfl rfl) rfl rfl ?_; clear HF ac; intro ac HF
  refine dx_p (i := 2) HF rfl (by kernel_rfl) (by kernel_rfl) (by kernel_rfl) (by decide) (fun _ _ _ h => h) (fun _ => HH) (fa_st fd85x1 rfl) rfl rfl ?_; clear HF ac; intro ac HF
  refine dx_k (i := 3) HF rfl (by kernel_rfl) (by kernel_rfl) (by kernel_rfl) (by kernel_rfl) (by kernel_rfl) (fun _ _ _ h => h) HH (ld_sc sc39 rfl rfl rfl) rfl rfl ?_; clear HF ac; intro ac HF
  refine dx_one (i := 4) (by kernel_rfl) ?_
  refine op_call (i := 4) HF rfl Tryd.func100 (by kernel_rfl) (by kernel_rfl) (evs_cons rfl (evs_cons rfl evs_nil)) (bytesEq_any xs ys a b c d w (hx.below HS.kp) (hy.below HS.kp)) rfl rfl ?_; clear HF ac
  rintro _ w ⟨rfl, k1⟩
  rw [decide_eq_true h]
  refine ⟨_, rfl, fun ac HF => ?_⟩
  replace HH := HH.call k1
  replace HS := HS.call k1
  clear k1
  refine ⟨fun _ => HH, ?_⟩
  refine dx_p (i := 5) HF rfl (by kernel_rfl) (by kernel_rfl) (by kernel_rfl) (by decide) (fun _ _ _ h => h) (fun _ => HH) (yl_not rfl) rfl rfl ?_; clear HF ac; intro ac HF
  refine dx_p (i := 6) HF rfl (by kernel_rfl) (by kernel_rfl) (by kernel_rfl) (by decide) (fun _ _ _ h => h) (fun _ => HH) (yl_move rfl) rfl rfl ?_; clear HF ac; intro ac HF
  refine dx_off (i := 7) HF rfl (by kernel_rfl) (by kernel_rfl) (by kernel_rfl) (by decide) (fun _ _ _ h => h) (fun _ => HH) rfl rfl ?_; clear HF ac; intro ac HF
  refine dx_off (i := 8) HF rfl (by kernel_rfl) (by kernel_rfl) (by kernel_rfl) (by decide) (fun _ _ _ h => h) (fun _ => HH) rfl rfl ?_; clear HF ac; intro ac HF
  refine dx_off (i := 9) HF rfl (by kernel_rfl) (by kernel_rfl) (by kernel_rfl) (by decide) (fun _ _ _ h => h) (fun _ => HH) rfl rfl ?_; clear HF ac; intro ac HF
  refine dx_off (i := 10) HF rfl (by kernel_rfl) (by kernel_rfl) (by kernel_rfl) (by decide) (fun _ _ _ h => h) (fun _ => HH) rfl rfl ?_; clear HF ac; intro ac HF
  refine dx_off (i := 11) HF rfl (by kernel_rfl) (by kernel_rfl) (by kernel_rfl) (by decide) (fun _ _ _ h => h) (fun _ => HH) rfl rfl ?_; clear HF ac; intro ac HF
  refine dx_off (i := 12) HF rfl (by kernel_rfl) (by kernel_rfl) (by kernel_rfl) (by decide) (fun _ _ _ h => h) (fun _ => HH) rfl rfl ?_; clear HF ac; intro ac HF
  refine dx_off (i := 13) HF rfl (by kernel_rfl) (by kernel_rfl) (by kernel_rfl) (by decide) (fun _ _ _ h => h) (fun _ => HH) rfl rfl ?_; clear HF ac; intro ac HF
  refine dx_p (i := 14) HF rfl (by kernel_rfl) (by kernel_rfl) (by kernel_rfl) (by decide) (fun _ _ _ h => h) (fun _ => HH) (yl_pick (b := false) rfl rfl) rfl rfl ?_; clear HF ac; intro ac HF
  refine dx_p (i := 15) HF rfl (by kernel_rfl) (by kernel_rfl) (by kernel_rfl) (by decide) (fun _ _ _ h => h) (fun _ => HH) (yl_assign rfl) rfl rfl ?_; clear HF ac; intro ac HF
  refine dx_done (by kernel_rfl) ?_
  clear HH
  refine then_n ?_
  refine wp_ret ?_
  exact rt1 rfl HF HS rfl ⟨by rw [rightB_eq h], HS.kp⟩

set_option maxRecDepth 100000 in
theorem right_ne (xs ys : List UInt8) (a b : Option Addr) (c d : Nat) (w0 : World) (hx : Rd w0 a xs.length c 1 (bcs xs)) (hy : Rd w0 b ys.length d 1 (bcs ys)) (h : ¬ xs = ys) (hL : Laid w0) (h2 : 4 ≤ w0.heap.size) :
    Calls Tryd.prog 135 #[.agg (sgA (coS a xs.length c b ys.length d))] w0 fun e w' => e = .returned (.bool (rightB xs ys)) ∧ Kp [] w0 w' := by
  refine calls_st (F := []) (args := [.agg (sgA (coS a xs.length c b ys.length d))]) Tryd.func135 rfl (n := 18) rfl rfl ?_
  intro ac w HF HS
  refine wp_seq ?_
  refine wp_region_lit ?_
  refine sx_ef HF (ef_boxs HS rfl) rfl rfl ?_; clear HF HS ac; rintro _ w ac ⟨g1, rfl, HS⟩ HF
  refine sx_y HF HS (yl_assign rfl) rfl rfl ?_; clear HF ac; intro ac HF
  refine wpList_nil ?_
  refine then_n ?_
  refine wp_seq ?_
  refine dx_region 16 (by kernel_rfl) HS.drew (fun _ h => h) ?_; clear HS; intro w HS
  have HH := HS
  refine dx_p (i := 0) HF rfl (by kernel_rfl) (by kernel_rfl) (by kernel_rfl) (by decide) (fun _ _ _ h => h) (fun _ => HH) (fa_st fd85x0 rfl) rfl rfl ?_; clear HF ac; intro ac HF
  refine dx_k (i := 1) HF rfl (by kernel_rfl) (by kernel_rfl) (by kernel_rfl) (by kernel_rfl) (by kernel_rfl) (fun _ _ _ h => h) HH (ld_sc sc39 rfl rfl rfl) rfl rfl ?_; clear HF ac; intro ac HF
  refine dx_p (i := 2) HF rfl (by kernel_rfl) (by kernel_rfl) (by kernel_rfl) (by decide) (fun _ _ _ h => h) (fun _ => HH) (fa_st fd85x1 rfl) rfl rfl ?_; clear HF ac; intro ac HF
  refine dx_k (i := 3) HF rfl (by kernel_rfl) (by kernel_rfl) (by kernel_rfl) (by kernel_rfl) (by kernel_rfl) (fun _ _ _ h => h) HH (ld_sc sc39 rfl rfl rfl) rfl rfl ?_; clear HF ac; intro ac HF
  refine dx_one (i := 4) (by kernel_rfl) ?_
  refine op_call (i := 4) HF rfl Tryd.func100 (by kernel_rfl) (by kernel_rfl) (evs_cons rfl (evs_cons rfl evs_nil)) (bytesEq_any xs ys a b c d w (hx.below HS.kp) (hy.below HS.kp)) rfl rfl ?_; clear HF ac
  rintro _ w ⟨rfl, k1⟩
  rw [decide_eq_false h]
  refine ⟨_, rfl, fun ac HF => ?_⟩
  replace HH := HH.call k1
  replace HS := HS.call k1
  clear k1
  refine ⟨fun _ => HH, ?_⟩
  refine dx_p (i := 5) HF rfl (by kernel_rfl) (by kernel_rfl) (by kernel_rfl) (by decide) (fun _ _ _ h => h) (fun _ => HH) (yl_not rfl) rfl rfl ?_; clear HF ac; intro ac HF
  refine dx_p (i := 6) HF rfl (by kernel_rfl) (by kernel_rfl) (by kernel_rfl) (by decide) (fun _ _ _ h => h) (fun _ => HH) (yl_move rfl) rfl rfl ?_; clear HF ac; intro ac HF
  refine dx_p (i := 7) HF rfl (by kernel_rfl) (by kernel_rfl) (by kernel_rfl) (by decide) (fun _ _ _ h => h) (fun _ => HH) (fa_st fd85x0 rfl) rfl rfl ?_; clear HF ac; intro ac HF
  refine dx_k (i := 8) HF rfl (by kernel_rfl) (by kernel_rfl) (by kernel_rfl) (by kernel_rfl) (by kernel_rfl) (fun _ _ _ h => h) HH (ld_sc sc39 rfl rfl rfl) rfl rfl ?_; clear HF ac; intro ac HF
  refine dx_p (i := 10) HF rfl (by kernel_rfl) (by kernel_rfl) (by kernel_rfl) (by decide) (fun _ _ _ h => h) (fun _ => HH) (fa_st fd85x1 rfl) rfl rfl ?_; clear HF ac; intro ac HF
  refine dx_k (i := 11) HF rfl (by kernel_rfl) (by kernel_rfl) (by kernel_rfl) (by kernel_rfl) (by kernel_rfl) (fun _ _ _ h => h) HH (ld_sc sc39 rfl rfl rfl) rfl rfl ?_; clear HF ac; intro ac HF
  refine dx_one (i := 9) (by kernel_rfl) ?_
  refine op_call (i := 9) HF rfl Tryd.func69 (by kernel_rfl) (by kernel_rfl) (evs_cons rfl evs_nil) (sum_any a c xs w (hx.below HS.kp) (hL.below HS.kp) (Nat.le_trans h2 HS.kp.size)) rfl rfl ?_; clear HF ac
  rintro _ w ⟨rfl, k1⟩
  refine ⟨_, rfl, fun ac HF => ?_⟩
  replace HH := HH.call k1
  replace HS := HS.call k1
  clear k1
  refine ⟨fun _ => HH, ?_⟩
  refine dx_one (i := 12) (by kernel_rfl) ?_
  refine op_call (i := 12) HF rfl Tryd.func69 (by kernel_rfl) (by kernel_rfl) (evs_cons rfl evs_nil) (sum_any b d ys w (hy.below HS.kp) (hL.below HS.kp) (Nat.le_trans h2 HS.kp.size)) rfl rfl ?_; clear HF ac
  rintro _ w ⟨rfl, k1⟩
  refine ⟨_, rfl, fun ac HF => ?_⟩
  replace HH := HH.call k1
  replace HS := HS.call k1
  clear k1
  refine ⟨fun _ => HH, ?_⟩
  refine dx_p (i := 13) HF rfl (by kernel_rfl) (by kernel_rfl) (by kernel_rfl) (by decide) (fun _ _ _ h => h) (fun _ => HH) (Tryd.yl_eqH rfl rfl rfl) rfl rfl ?_; clear HF ac; intro ac HF
  refine dx_p (i := 14) HF rfl (by kernel_rfl) (by kernel_rfl) (by kernel_rfl) (by decide) (fun _ _ _ h => h) (fun _ => HH) (yl_pick (b := true) rfl rfl) rfl rfl ?_; clear HF ac; intro ac HF
  refine dx_p (i := 15) HF rfl (by kernel_rfl) (by kernel_rfl) (by kernel_rfl) (by decide) (fun _ _ _ h => h) (fun _ => HH) (yl_assign rfl) rfl rfl ?_; clear HF ac; intro ac HF
  refine dx_done (by kernel_rfl) ?_
  clear HH
  refine then_n ?_
  refine wp_ret ?_
  exact rt1 rfl HF HS rfl ⟨by rw [rightB_ne h], HS.kp⟩

theorem right_any (xs ys : List UInt8) (a b : Option Addr) (c d : Nat) (w0 : World) (hx : Rd w0 a xs.length c 1 (bcs xs)) (hy : Rd w0 b ys.length d 1 (bcs ys)) (hL : Laid w0) (h2 : 4 ≤ w0.heap.size) :
    Calls Tryd.prog 135 #[.agg (sgA (coS a xs.length c b ys.length d))] w0 fun e w' => e = .returned (.bool (rightB xs ys)) ∧ Kp [] w0 w' := by
  by_cases h : xs = ys
  · exact right_eq xs ys a b c d w0 hx hy h hL h2
  · exact right_ne xs ys a b c d w0 hx hy h hL h2

set_option maxRecDepth 100000 in
theorem right10_eq (xs ys : List UInt8) (a b : Option Addr) (c d : Nat) (w0 : World) (hx : Rd w0 a xs.length c 1 (bcs xs)) (hy : Rd w0 b ys.length d 1 (bcs ys)) (h : xs = ys) (_hL : Laid w0) (_h2 : 4 ≤ w0.heap.size) :
    Calls Tryd.prog 62 #[.agg (sgA (coS a xs.length c b ys.length d))] w0 fun e w' => e = .returned (.bool (rightB xs ys)) ∧ Kp [] w0 w' := by
  refine calls_st (F := []) (args := [.agg (sgA (coS a xs.length c b ys.length d))]) Tryd.func62 rfl (n := 19) rfl rfl ?_
  intro ac w HF HS
  refine wp_seq ?_
  refine wp_region_lit ?_
  refine sx_ef HF (ef_boxs HS rfl) rfl rfl ?_; clear HF HS ac; rintro _ w ac ⟨g1, rfl, HS⟩ HF
  refine sx_y HF HS (yl_assign rfl) rfl rfl ?_; clear HF ac; intro ac HF
  refine wpList_nil ?_
  refine then_n ?_
  refine wp_seq ?_
  refine dx_region 17 (by kernel_rfl) HS.drew (fun _ h => h) ?_; clear HS; intro w HS
  have HH := HS
  refine dx_p (i := 0) HF rfl (by kernel_rfl) (by kernel_rfl) (by kernel_rfl) (by decide) (fun _ _ _ h => h) (fun _ => HH) (fa_st fd85x0 rfl) rfl rfl ?_; clear HF ac; intro ac HF
  refine dx_k (i := 1) HF rfl (by kernel_rfl) (by kernel_rfl) (by kernel_rfl) (by kernel_rfl) (by kernel_rfl) (fun _ _ _ h => h) HH (ld_sc sc39 rfl rfl rfl) rfl rfl ?_; clear HF ac; intro ac HF
  refine dx_k (i := 2) HF rfl (by kernel_rfl) (by kernel_rfl) (by kernel_rfl) (by kernel_rfl) (by kernel_rfl) (fun _ _ _ h => h) HH (yl_str Tryd.underlying39 Tryd.underlying5 Tryd.underlying9 rfl (fun w h => hx.below h.kp)) rfl rfl ?_; clear HF ac; intro ac HF
  refine dx_p (i := 3) HF rfl (by kernel_rfl) (by kernel_rfl) (by kernel_rfl) (by decide) (fun _ _ _ h => h) (fun _ => HH) (fa_st fd85x1 rfl) rfl rfl ?_; clear HF ac; intro ac HF
  refine dx_k (i := 4) HF rfl (by kernel_rfl) (by kernel_rfl) (by kernel_rfl) (by kernel_rfl) (by kernel_rfl) (fun _ _ _ h => h) HH (ld_sc sc39 rfl rfl rfl) rfl rfl ?_; clear HF ac; intro ac HF
  refine dx_k (i := 5) HF rfl (by kernel_rfl) (by kernel_rfl) (by kernel_rfl) (by kernel_rfl) (by kernel_rfl) (fun _ _ _ h => h) HH (yl_str Tryd.underlying39 Tryd.underlying5 Tryd.underlying9 rfl (fun w h => hy.below h.kp)) rfl rfl ?_; clear HF ac; intro ac HF
  refine dx_p (i := 6) HF rfl (by kernel_rfl) (by kernel_rfl) (by kernel_rfl) (by decide) (fun _ _ _ h => h) (fun _ => HH) (yl_neS rfl rfl (decide_eq_false (by exact (fun hh => hh h)))) rfl rfl ?_; clear HF ac; intro ac HF
  refine dx_p (i := 7) HF rfl (by kernel_rfl) (by kernel_rfl) (by kernel_rfl) (by decide) (fun _ _ _ h => h) (fun _ => HH) (yl_move rfl) rfl rfl ?_; clear HF ac; intro ac HF
  refine dx_off (i := 8) HF rfl (by kernel_rfl) (by kernel_rfl) (by kernel_rfl) (by decide) (fun _ _ _ h => h) (fun _ => HH) rfl rfl ?_; clear HF ac; intro ac HF
  refine dx_off (i := 9) HF rfl (by kernel_rfl) (by kernel_rfl) (by kernel_rfl) (by decide) (fun _ _ _ h => h) (fun _ => HH) rfl rfl ?_; clear HF ac; intro ac HF
  refine dx_off (i := 10) HF rfl (by kernel_rfl) (by kernel_rfl) (by kernel_rfl) (by decide) (fun _ _ _ h => h) (fun _ => HH) rfl rfl ?_; clear HF ac; intro ac HF
  refine dx_off (i := 11) HF rfl (by kernel_rfl) (by kernel_rfl) (by kernel_rfl) (by decide) (fun _ _ _ h => h) (fun _ => HH) rfl rfl ?_; clear HF ac; intro ac HF
  refine dx_off (i := 12) HF rfl (by kernel_rfl) (by kernel_rfl) (by kernel_rfl) (by decide) (fun _ _ _ h => h) (fun _ => HH) rfl rfl ?_; clear HF ac; intro ac HF
  refine dx_off (i := 13) HF rfl (by kernel_rfl) (by kernel_rfl) (by kernel_rfl) (by decide) (fun _ _ _ h => h) (fun _ => HH) rfl rfl ?_; clear HF ac; intro ac HF
  refine dx_off (i := 14) HF rfl (by kernel_rfl) (by kernel_rfl) (by kernel_rfl) (by decide) (fun _ _ _ h => h) (fun _ => HH) rfl rfl ?_; clear HF ac; intro ac HF
  refine dx_p (i := 15) HF rfl (by kernel_rfl) (by kernel_rfl) (by kernel_rfl) (by decide) (fun _ _ _ h => h) (fun _ => HH) (yl_pick (b := false) rfl rfl) rfl rfl ?_; clear HF ac; intro ac HF
  refine dx_p (i := 16) HF rfl (by kernel_rfl) (by kernel_rfl) (by kernel_rfl) (by decide) (fun _ _ _ h => h) (fun _ => HH) (yl_assign rfl) rfl rfl ?_; clear HF ac; intro ac HF
  refine dx_done (by kernel_rfl) ?_
  clear HH
  refine then_n ?_
  refine wp_ret ?_
  exact rt1 rfl HF HS rfl ⟨by rw [rightB_eq h], HS.kp⟩

set_option maxRecDepth 100000 in
theorem right10_ne (xs ys : List UInt8) (a b : Option Addr) (c d : Nat) (w0 : World) (hx : Rd w0 a xs.length c 1 (bcs xs)) (hy : Rd w0 b ys.length d 1 (bcs ys)) (h : ¬ xs = ys) (hL : Laid w0) (h2 : 4 ≤ w0.heap.size) :
    Calls Tryd.prog 62 #[.agg (sgA (coS a xs.length c b ys.length d))] w0 fun e w' => e = .returned (.bool (rightB xs ys)) ∧ Kp [] w0 w' := by
  refine calls_st (F := []) (args := [.agg (sgA (coS a xs.length c b ys.length d))]) Tryd.func62 rfl (n := 19) rfl rfl ?_
  intro ac w HF HS
  refine wp_seq ?_
  refine wp_region_lit ?_
  refine sx_ef HF (ef_boxs HS rfl) rfl rfl ?_; clear HF HS ac; rintro _ w ac ⟨g1, rfl, HS⟩ HF
  refine sx_y HF HS (yl_assign rfl) rfl rfl ?_; clear HF ac; intro ac HF
  refine wpList_nil ?_
  refine then_n ?_
  refine wp_seq ?_
  refine dx_region 17 (by kernel_rfl) HS.drew (fun _ h => h) ?_; clear HS; intro w HS
  have HH := HS
  refine dx_p (i := 0) HF rfl (by kernel_rfl) (by kernel_rfl) (by kernel_rfl) (by decide) (fun _ _ _ h => h) (fun _ => HH) (fa_st fd85x0 rfl) rfl rfl ?_; clear HF ac; intro ac HF
  refine dx_k (i := 1) HF rfl (by kernel_rfl) (by kernel_rfl) (by kernel_rfl) (by kernel_rfl) (by kernel_rfl) (fun _ _ _ h => h) HH (ld_sc sc39 rfl rfl rfl) rfl rfl ?_; clear HF ac; intro ac HF
  refine dx_k (i := 2) HF rfl (by kernel_rfl) (by kernel_rfl) (by kernel_rfl) (by kernel_rfl) (by kernel_rfl) (fun _ _ _ h => h) HH (yl_str Tryd.underlying39 Tryd.underlying5 Tryd.underlying9 rfl (fun w h => hx.below h.kp)) rfl rfl ?_; clear HF ac; intro ac HF
  refine dx_p (i := 3) HF rfl (by kernel_rfl) (by kernel_rfl) (by kernel_rfl) (by decide) (fun _ _ _ h => h) (fun _ => HH) (fa_st fd85x1 rfl) rfl rfl ?_; clear HF ac; intro ac HF
  refine dx_k (i := 4) HF rfl (by kernel_rfl) (by kernel_rfl) (by kernel_rfl) (by kernel_rfl) (by kernel_rfl) (fun _ _ _ h => h) HH (ld_sc sc39 rfl rfl rfl) rfl rfl ?_; clear HF ac; intro ac HF
  refine dx_k (i := 5) HF rfl (by kernel_rfl) (by kernel_rfl) (by kernel_rfl) (by kernel_rfl) (by kernel_rfl) (fun _ _ _ h => h) HH (yl_str Tryd.underlying39 Tryd.underlying5 Tryd.underlying9 rfl (fun w h => hy.below h.kp)) rfl rfl ?_; clear HF ac; intro ac HF
  refine dx_p (i := 6) HF rfl (by kernel_rfl) (by kernel_rfl) (by kernel_rfl) (by decide) (fun _ _ _ h => h) (fun _ => HH) (yl_neS rfl rfl (decide_eq_true (by exact h))) rfl rfl ?_; clear HF ac; intro ac HF
  refine dx_p (i := 7) HF rfl (by kernel_rfl) (by kernel_rfl) (by kernel_rfl) (by decide) (fun _ _ _ h => h) (fun _ => HH) (yl_move rfl) rfl rfl ?_; clear HF ac; intro ac HF
  refine dx_p (i := 8) HF rfl (by kernel_rfl) (by kernel_rfl) (by kernel_rfl) (by decide) (fun _ _ _ h => h) (fun _ => HH) (fa_st fd85x0 rfl) rfl rfl ?_; clear HF ac; intro ac HF
  refine dx_k (i := 9) HF rfl (by kernel_rfl) (by kernel_rfl) (by kernel_rfl) (by kernel_rfl) (by kernel_rfl) (fun _ _ _ h => h) HH (ld_sc sc39 rfl rfl rfl) rfl rfl ?_; clear HF ac; intro ac HF
  refine dx_p (i := 11) HF rfl (by kernel_rfl) (by kernel_rfl) (by kernel_rfl) (by decide) (fun _ _ _ h => h) (fun _ => HH) (fa_st fd85x1 rfl) rfl rfl ?_; clear HF ac; intro ac HF
  refine dx_k (i := 12) HF rfl (by kernel_rfl) (by kernel_rfl) (by kernel_rfl) (by kernel_rfl) (by kernel_rfl) (fun _ _ _ h => h) HH (ld_sc sc39 rfl rfl rfl) rfl rfl ?_; clear HF ac; intro ac HF
  refine dx_one (i := 10) (by kernel_rfl) ?_
  refine op_call (i := 10) HF rfl Tryd.func69 (by kernel_rfl) (by kernel_rfl) (evs_cons rfl evs_nil) (sum_any a c xs w (hx.below HS.kp) (hL.below HS.kp) (Nat.le_trans h2 HS.kp.size)) rfl rfl ?_; clear HF ac
  rintro _ w ⟨rfl, k1⟩
  refine ⟨_, rfl, fun ac HF => ?_⟩
  replace HH := HH.call k1
  replace HS := HS.call k1
  clear k1
  refine ⟨fun _ => HH, ?_⟩
  refine dx_one (i := 13) (by kernel_rfl) ?_
  refine op_call (i := 13) HF rfl Tryd.func69 (by kernel_rfl) (by kernel_rfl) (evs_cons rfl evs_nil) (sum_any b d ys w (hy.below HS.kp) (hL.below HS.kp) (Nat.le_trans h2 HS.kp.size)) rfl rfl ?_; clear HF ac
  rintro _ w ⟨rfl, k1⟩
  refine ⟨_, rfl, fun ac HF => ?_⟩
  replace HH := HH.call k1
  replace HS := HS.call k1
  clear k1
  refine ⟨fun _ => HH, ?_⟩
  refine dx_p (i := 14) HF rfl (by kernel_rfl) (by kernel_rfl) (by kernel_rfl) (by decide) (fun _ _ _ h => h) (fun _ => HH) (Tryd.yl_eqH rfl rfl rfl) rfl rfl ?_; clear HF ac; intro ac HF
  refine dx_p (i := 15) HF rfl (by kernel_rfl) (by kernel_rfl) (by kernel_rfl) (by decide) (fun _ _ _ h => h) (fun _ => HH) (yl_pick (b := true) rfl rfl) rfl rfl ?_; clear HF ac; intro ac HF
  refine dx_p (i := 16) HF rfl (by kernel_rfl) (by kernel_rfl) (by kernel_rfl) (by decide) (fun _ _ _ h => h) (fun _ => HH) (yl_assign rfl) rfl rfl ?_; clear HF ac; intro ac HF
  refine dx_done (by kernel_rfl) ?_
  clear HH
  refine then_n ?_
  refine wp_ret ?_
  exact rt1 rfl HF HS rfl ⟨by rw [rightB_ne h], HS.kp⟩

theorem right10_any (xs ys : List UInt8) (a b : Option Addr) (c d : Nat) (w0 : World) (hx : Rd w0 a xs.length c 1 (bcs xs)) (hy : Rd w0 b ys.length d 1 (bcs ys)) (hL : Laid w0) (h2 : 4 ≤ w0.heap.size) :
    Calls Tryd.prog 62 #[.agg (sgA (coS a xs.length c b ys.length d))] w0 fun e w' => e = .returned (.bool (rightB xs ys)) ∧ Kp [] w0 w' := by
  by_cases h : xs = ys
  · exact right10_eq xs ys a b c d w0 hx hy h hL h2
  · exact right10_ne xs ys a b c d w0 hx hy h hL h2

end Go.Proofs.YtalnkhgonfcabaaDoor
