/-
  CollideRight: its walk. (Printed by sx_lawcoll.py.)
-/
import Derived.Test.YtkjdnpalafldhaaDoorColl5
namespace Go.Proofs.YtkjdnpalafldhaaDoor.collideRight
open Go.RowKit Go.Proofs.YtkjdnpalafldhaaDoor

/-! ### Types -/
namespace CollR
theorem ag68 : AgT Tryd.prog 68 2 := AgT.mk' Tryd.underlying68 rfl (by kernel_rfl)
theorem sz68 : (Tryd.prog.info? 68).map (·.size) = some 2 := by kernel_rfl
theorem ze68 : ZeS Tryd.prog 68 [(1, .slice none 0 0), (1, .slice none 0 0)] := ⟨.agg _, ZeT.mk' (by kernel_rfl), rfl⟩
end CollR
open Go.Proofs.YtkjdnpalafldhaaDoor.collideRight.CollR

set_option maxRecDepth 100000 in
theorem walk (xs ys : List UInt8) (a b : Option Addr) (c d : Nat) (w0 : World) (hx : Rd w0 a xs.length c 1 (bcs xs)) (hy : Rd w0 b ys.length d 1 (bcs ys)) (hL : Laid w0) (h2 : 2 ≤ w0.heap.size) :
    Calls Tryd.prog 13 #[.slice a xs.length c, .slice b ys.length d] w0 fun e w' => e = .returned (.bool true) ∧ Kp [] w0 w' := by
  refine calls_st (F := []) (args := [.slice a xs.length c, .slice b ys.length d]) Tryd.func13 rfl (n := 33) rfl rfl ?_
  intro ac w HF HS
  refine wp_seq ?_
  refine wp_region_lit ?_
  refine sx_y HF HS (yl_assign rfl) rfl rfl ?_; clear HF ac; intro ac HF
  refine wpList_nil ?_
  refine then_n ?_
  refine wp_seq ?_
  refine wp_seq ?_
  refine wp_region_lit ?_
  refine sx_y HF HS (yl_move rfl) rfl rfl ?_; clear HF ac; intro ac HF
  refine sx_y HF HS (yl_len_slice Tryd.underlying36 rfl) rfl rfl ?_; clear HF ac; intro ac HF
  refine sx_dec HF HS (yl_gtr rfl rfl rfl) rfl rfl ?_ ?_ <;> clear HF ac <;> intro h1x2 ac HF
  · refine sx_y HF HS (yl_move rfl) rfl rfl ?_; clear HF ac; intro ac HF
    refine sx_off HF rfl rfl ?_; clear HF ac; intro ac HF
    refine sx_off HF rfl rfl ?_; clear HF ac; intro ac HF
    refine sx_off HF rfl rfl ?_; clear HF ac; intro ac HF
    refine sx_y HF HS (yl_pick (b := true) rfl rfl) rfl rfl ?_; clear HF ac; intro ac HF
    refine wpList_nil ?_
    refine then_n ?_
    refine cx_true HF rfl ?_
    refine wp_seq ?_
    refine wp_region_lit ?_
    refine sx_call HF Tryd.func40 (by kernel_rfl) (by kernel_rfl) evs_nil (awake10_any w (hL.below HS.kp) (Nat.le_trans h2 HS.kp.size)) rfl rfl ?_; clear HF ac
    rintro _ w ⟨rfl, k1⟩
    refine ⟨_, rfl, fun ac HF => ?_⟩
    replace HS := HS.call k1
    clear k1
    refine sx_y HF HS (yl_assign rfl) rfl rfl ?_; clear HF ac; intro ac HF
    refine wpList_nil ?_
    refine then_n ?_
    refine wp_ret ?_
    refine then_r ?_
    exact rt1 rfl HF HS rfl ⟨rfl, HS.kp⟩
  · refine sx_y HF HS (yl_move rfl) rfl rfl ?_; clear HF ac; intro ac HF
    refine sx_y HF HS (yl_move rfl) rfl rfl ?_; clear HF ac; intro ac HF
    refine sx_y HF HS (yl_len_slice Tryd.underlying36 rfl) rfl rfl ?_; clear HF ac; intro ac HF
    refine sx_dec HF HS (yl_gtr rfl rfl rfl) rfl rfl ?_ ?_ <;> clear HF ac <;> intro h1x6 ac HF
    · refine sx_y HF HS (yl_pick (b := false) rfl rfl) rfl rfl ?_; clear HF ac; intro ac HF
      refine wpList_nil ?_
      refine then_n ?_
      refine cx_true HF rfl ?_
      refine wp_seq ?_
      refine wp_region_lit ?_
      refine sx_call HF Tryd.func40 (by kernel_rfl) (by kernel_rfl) evs_nil (awake10_any w (hL.below HS.kp) (Nat.le_trans h2 HS.kp.size)) rfl rfl ?_; clear HF ac
      rintro _ w ⟨rfl, k1⟩
      refine ⟨_, rfl, fun ac HF => ?_⟩
      replace HS := HS.call k1
      clear k1
      refine sx_y HF HS (yl_assign rfl) rfl rfl ?_; clear HF ac; intro ac HF
      refine wpList_nil ?_
      refine then_n ?_
      refine wp_ret ?_
      refine then_r ?_
      exact rt1 rfl HF HS rfl ⟨rfl, HS.kp⟩
    · refine sx_y HF HS (yl_pick (b := false) rfl rfl) rfl rfl ?_; clear HF ac; intro ac HF
      refine wpList_nil ?_
      refine then_n ?_
      refine cx_false HF rfl ?_
      refine wp_skip ?_
      refine then_n ?_
      refine wp_seq ?_
      refine wp_region_lit ?_
      refine sx_y HF HS (yl_move rfl) rfl rfl ?_; clear HF ac; intro ac HF
      refine sx_y HF HS (yl_move rfl) rfl rfl ?_; clear HF ac; intro ac HF
      refine sx_y HF HS (bd_st (parts := #[(0, .tmp 15), (1, .tmp 16)]) Tryd.underlying68 (by kernel_rfl) ze68 (evs_cons rfl (evs_cons rfl evs_nil)) (pl := [(0, 1), (1, 1)]) (by kernel_rfl) (szs := [1, 1]) rfl (inferInstance : SgW [(1, _), (1, _)]) rfl) rfl rfl ?_; clear HF ac; intro ac HF
      refine sx_ef HF (ef_alloc HS ze68) rfl rfl ?_; clear HF HS ac; rintro _ w ac ⟨g5, rfl, HS⟩ HF
      refine sx_ef0 HF (ef_stores HS sz68 rfl rfl rfl rfl) rfl ?_; clear HS; rintro _ w HS
      refine wpList_nil ?_
      refine then_n ?_
      refine wp_seq ?_
      refine dx_region 16 (by kernel_rfl) HS.drew (fun _ h => h) ?_; clear HS; intro w HS
      have HH := HS
      refine dx_k (i := 0) HF rfl (by kernel_rfl) (by kernel_rfl) (by kernel_rfl) (by kernel_rfl) (by kernel_rfl) (fun _ _ _ h => h) HH (ld_all ag68 rfl rfl) rfl rfl ?_; clear HF ac; intro ac HF
      refine dx_k (i := 2) HF rfl (by kernel_rfl) (by kernel_rfl) (by kernel_rfl) (by kernel_rfl) (by kernel_rfl) (fun _ _ _ h => h) HH (ld_all ag68 rfl rfl) rfl rfl ?_; clear HF ac; intro ac HF
      refine dx_one (i := 1) (by kernel_rfl) ?_
      refine op_call (i := 1) HF rfl Tryd.func41 (by kernel_rfl) (by kernel_rfl) (evs_cons rfl evs_nil) (right_any xs ys a b c d w (hx.below HS.kp) (hy.below HS.kp) (hL.below HS.kp) (Nat.le_trans h2 HS.kp.size)) rfl rfl ?_; clear HF ac
      rintro _ w ⟨rfl, k1⟩
      refine ⟨_, rfl, fun ac HF => ?_⟩
      replace HH := HH.call k1
      replace HS := HS.call k1
      clear k1
      refine ⟨fun _ => HH, ?_⟩
      refine dx_one (i := 3) (by kernel_rfl) ?_
      refine op_call (i := 3) HF rfl Tryd.func42 (by kernel_rfl) (by kernel_rfl) (evs_cons rfl evs_nil) (right10_any xs ys a b c d w (hx.below HS.kp) (hy.below HS.kp) (hL.below HS.kp) (Nat.le_trans h2 HS.kp.size)) rfl rfl ?_; clear HF ac
      rintro _ w ⟨rfl, k1⟩
      refine ⟨_, rfl, fun ac HF => ?_⟩
      replace HH := HH.call k1
      replace HS := HS.call k1
      clear k1
      refine ⟨fun _ => HH, ?_⟩
      refine dx_p (i := 4) HF rfl (by kernel_rfl) (by kernel_rfl) (by kernel_rfl) (by decide) (fun _ _ _ h => h) (fun _ => HH) (yl_eqB Tryd.underlying4 rfl rfl (decide_eq_true (by exact rfl))) rfl rfl ?_; clear HF ac; intro ac HF
      refine dx_p (i := 5) HF rfl (by kernel_rfl) (by kernel_rfl) (by kernel_rfl) (by decide) (fun _ _ _ h => h) (fun _ => HH) (yl_move rfl) rfl rfl ?_; clear HF ac; intro ac HF
      refine dx_p (i := 6) HF rfl (by kernel_rfl) (by kernel_rfl) (by kernel_rfl) (by decide) (fun _ _ _ h => h) (fun _ => HH) (yl_move rfl) rfl rfl ?_; clear HF ac; intro ac HF
      refine dx_p (i := 7) HF rfl (by kernel_rfl) (by kernel_rfl) (by kernel_rfl) (by decide) (fun _ _ _ h => h) (fun _ => HH) (yl_move rfl) rfl rfl ?_; clear HF ac; intro ac HF
      refine dx_p (i := 8) HF rfl (by kernel_rfl) (by kernel_rfl) (by kernel_rfl) (by decide) (fun _ _ _ h => h) (fun _ => HH) (bd_st (parts := #[(0, .tmp 24), (1, .tmp 25)]) Tryd.underlying68 (by kernel_rfl) ze68 (evs_cons rfl (evs_cons rfl evs_nil)) (pl := [(0, 1), (1, 1)]) (by kernel_rfl) (szs := [1, 1]) rfl (inferInstance : SgW [(1, _), (1, _)]) rfl) rfl rfl ?_; clear HF ac; intro ac HF
      refine dx_one (i := 9) (by kernel_rfl) ?_
      refine op_call (i := 9) HF rfl Tryd.func41 (by kernel_rfl) (by kernel_rfl) (evs_cons rfl evs_nil) (right_any xs xs a a c c w (hx.below HS.kp) (hx.below HS.kp) (hL.below HS.kp) (Nat.le_trans h2 HS.kp.size)) rfl rfl ?_; clear HF ac
      rintro _ w ⟨rfl, k1⟩
      rw [rightB_eq rfl]
      refine ⟨_, rfl, fun ac HF => ?_⟩
      replace HH := HH.call k1
      replace HS := HS.call k1
      clear k1
      refine ⟨fun _ => HH, ?_⟩
      refine dx_p (i := 10) HF rfl (by kernel_rfl) (by kernel_rfl) (by kernel_rfl) (by decide) (fun _ _ _ h => h) (fun _ => HH) (yl_not rfl) rfl rfl ?_; clear HF ac; intro ac HF
      refine dx_p (i := 11) HF rfl (by kernel_rfl) (by kernel_rfl) (by kernel_rfl) (by decide) (fun _ _ _ h => h) (fun _ => HH) (yl_pick (b := true) rfl rfl) rfl rfl ?_; clear HF ac; intro ac HF
      refine dx_p (i := 12) HF rfl (by kernel_rfl) (by kernel_rfl) (by kernel_rfl) (by decide) (fun _ _ _ h => h) (fun _ => HH) (yl_move rfl) rfl rfl ?_; clear HF ac; intro ac HF
      refine dx_one (i := 13) (by kernel_rfl) ?_
      refine op_call (i := 13) HF rfl Tryd.func40 (by kernel_rfl) (by kernel_rfl) evs_nil (awake10_any w (hL.below HS.kp) (Nat.le_trans h2 HS.kp.size)) rfl rfl ?_; clear HF ac
      rintro _ w ⟨rfl, k1⟩
      refine ⟨_, rfl, fun ac HF => ?_⟩
      replace HH := HH.call k1
      replace HS := HS.call k1
      clear k1
      refine ⟨fun _ => HH, ?_⟩
      refine dx_p (i := 14) HF rfl (by kernel_rfl) (by kernel_rfl) (by kernel_rfl) (by decide) (fun _ _ _ h => h) (fun _ => HH) (yl_pick (b := true) rfl rfl) rfl rfl ?_; clear HF ac; intro ac HF
      refine dx_p (i := 15) HF rfl (by kernel_rfl) (by kernel_rfl) (by kernel_rfl) (by decide) (fun _ _ _ h => h) (fun _ => HH) (yl_assign rfl) rfl rfl ?_; clear HF ac; intro ac HF
      refine dx_done (by kernel_rfl) ?_
      clear HH
      refine then_n ?_
      refine wp_ret ?_
      exact rt1 rfl HF HS rfl ⟨rfl, HS.kp⟩

end Go.Proofs.YtkjdnpalafldhaaDoor.collideRight
