/-
  ProofOther: its walks. (Printed by sx_other.py.)
-/
import Derived.Test.YtkjdnpalafldhaaDoorSx
import Derived.Test.YtkjdnpalafldhaaDoorBoth8
import Derived.Test.YtkjdnpalafldhaaDoorAwake8
namespace Go.Proofs.YtkjdnpalafldhaaDoor.proofOther
open Go.RowKit Go.Proofs.YtkjdnpalafldhaaDoor

/-! ### Types -/
namespace Other
theorem ag38 : AgT Tryd.prog 38 32 := AgT.mk' Tryd.underlying38 rfl (by kernel_rfl)
theorem sz38 : (Tryd.prog.info? 38).map (·.size) = some 32 := by kernel_rfl
theorem ze38 : ZeS Tryd.prog 38 [(32, hv zeroH)] := ⟨hv zeroH, ZeT.mk' (by kernel_rfl), (sgA_h zeroH).symm⟩
end Other
open Go.Proofs.YtkjdnpalafldhaaDoor.proofOther.Other

set_option maxRecDepth 100000 in
theorem walk_a (l : List Hsh) (a : Option Addr) (c : Nat) (i : Int) (other : Hsh) (w0 : World) (_hr : Rd w0 a l.length c 32 (hsc l)) (hl : 70 < l.length) (hL : Laid w0) (h2 : 2 ≤ w0.heap.size) :
    Calls Tryd.prog 9 #[.slice a l.length c, .int .i64 i, hv other] w0 fun e w' => e = .returned (.bool true) ∧ Kp [] w0 w' := by
  refine calls_st (F := []) (args := [.slice a l.length c, .int .i64 i, hv other]) Tryd.func9 rfl (n := 124) rfl rfl ?_
  intro ac w HF HS
  refine wp_seq ?_
  refine wp_region_lit ?_
  refine sx_ef HF (ef_box (n := 32) HS rfl) rfl rfl ?_; clear HF HS ac; rintro _ w ac ⟨g5, rfl, HS⟩ HF
  refine sx_y HF HS (yl_assign rfl) rfl rfl ?_; clear HF ac; intro ac HF
  refine wpList_nil ?_
  refine then_n ?_
  refine wp_seq ?_
  refine wp_seq ?_
  refine dx_region 21 (by kernel_rfl) HS.drew (fun _ h => h) ?_; clear HS; intro w HS
  have HH := HS
  refine dx_p (i := 0) HF rfl (by kernel_rfl) (by kernel_rfl) (by kernel_rfl) (by decide) (fun _ _ _ h => h) (fun _ => HH) (yl_move rfl) rfl rfl ?_; clear HF ac; intro ac HF
  refine dx_p (i := 1) HF rfl (by kernel_rfl) (by kernel_rfl) (by kernel_rfl) (by decide) (fun _ _ _ h => h) (fun _ => HH) (yl_len_slice Tryd.underlying25 rfl) rfl rfl ?_; clear HF ac; intro ac HF
  refine dx_p (i := 2) HF rfl (by kernel_rfl) (by kernel_rfl) (by kernel_rfl) (by decide) (fun _ _ _ h => h) (fun _ => HH) (yl_gtr rfl rfl (decide_eq_true (by omega))) rfl rfl ?_; clear HF ac; intro ac HF
  refine dx_p (i := 3) HF rfl (by kernel_rfl) (by kernel_rfl) (by kernel_rfl) (by decide) (fun _ _ _ h => h) (fun _ => HH) (yl_move rfl) rfl rfl ?_; clear HF ac; intro ac HF
  refine dx_off (i := 4) HF rfl (by kernel_rfl) (by kernel_rfl) (by kernel_rfl) (by decide) (fun _ _ _ h => h) (fun _ => HH) rfl rfl ?_; clear HF ac; intro ac HF
  refine dx_off (i := 5) HF rfl (by kernel_rfl) (by kernel_rfl) (by kernel_rfl) (by decide) (fun _ _ _ h => h) (fun _ => HH) rfl rfl ?_; clear HF ac; intro ac HF
  refine dx_p (i := 6) HF rfl (by kernel_rfl) (by kernel_rfl) (by kernel_rfl) (by decide) (fun _ _ _ h => h) (fun _ => HH) (yl_pick (b := true) rfl rfl) rfl rfl ?_; clear HF ac; intro ac HF
  refine dx_p (i := 7) HF rfl (by kernel_rfl) (by kernel_rfl) (by kernel_rfl) (by decide) (fun _ _ _ h => h) (fun _ => HH) (yl_move rfl) rfl rfl ?_; clear HF ac; intro ac HF
  refine dx_off (i := 8) HF rfl (by kernel_rfl) (by kernel_rfl) (by kernel_rfl) (by decide) (fun _ _ _ h => h) (fun _ => HH) rfl rfl ?_; clear HF ac; intro ac HF
  refine dx_off (i := 9) HF rfl (by kernel_rfl) (by kernel_rfl) (by kernel_rfl) (by decide) (fun _ _ _ h => h) (fun _ => HH) rfl rfl ?_; clear HF ac; intro ac HF
  refine dx_off (i := 10) HF rfl (by kernel_rfl) (by kernel_rfl) (by kernel_rfl) (by decide) (fun _ _ _ h => h) (fun _ => HH) rfl rfl ?_; clear HF ac; intro ac HF
  refine dx_off (i := 11) HF rfl (by kernel_rfl) (by kernel_rfl) (by kernel_rfl) (by decide) (fun _ _ _ h => h) (fun _ => HH) rfl rfl ?_; clear HF ac; intro ac HF
  refine dx_p (i := 12) HF rfl (by kernel_rfl) (by kernel_rfl) (by kernel_rfl) (by decide) (fun _ _ _ h => h) (fun _ => HH) (yl_pick (b := true) rfl rfl) rfl rfl ?_; clear HF ac; intro ac HF
  refine dx_p (i := 13) HF rfl (by kernel_rfl) (by kernel_rfl) (by kernel_rfl) (by decide) (fun _ _ _ h => h) (fun _ => HH) (yl_move rfl) rfl rfl ?_; clear HF ac; intro ac HF
  refine dx_off (i := 14) HF rfl (by kernel_rfl) (by kernel_rfl) (by kernel_rfl) (by decide) (fun _ _ _ h => h) (fun _ => HH) rfl rfl ?_; clear HF ac; intro ac HF
  refine dx_off (i := 15) HF rfl (by kernel_rfl) (by kernel_rfl) (by kernel_rfl) (by decide) (fun _ _ _ h => h) (fun _ => HH) rfl rfl ?_; clear HF ac; intro ac HF
  refine dx_off (i := 16) HF rfl (by kernel_rfl) (by kernel_rfl) (by kernel_rfl) (by decide) (fun _ _ _ h => h) (fun _ => HH) rfl rfl ?_; clear HF ac; intro ac HF
  refine dx_off (i := 17) HF rfl (by kernel_rfl) (by kernel_rfl) (by kernel_rfl) (by decide) (fun _ _ _ h => h) (fun _ => HH) rfl rfl ?_; clear HF ac; intro ac HF
  refine dx_off (i := 18) HF rfl (by kernel_rfl) (by kernel_rfl) (by kernel_rfl) (by decide) (fun _ _ _ h => h) (fun _ => HH) rfl rfl ?_; clear HF ac; intro ac HF
  refine dx_off (i := 19) HF rfl (by kernel_rfl) (by kernel_rfl) (by kernel_rfl) (by decide) (fun _ _ _ h => h) (fun _ => HH) rfl rfl ?_; clear HF ac; intro ac HF
  refine dx_p (i := 20) HF rfl (by kernel_rfl) (by kernel_rfl) (by kernel_rfl) (by decide) (fun _ _ _ h => h) (fun _ => HH) (yl_pick (b := true) rfl rfl) rfl rfl ?_; clear HF ac; intro ac HF
  refine dx_done (by kernel_rfl) ?_
  clear HH
  refine then_n ?_
  refine cx_true HF rfl ?_
  refine wp_seq ?_
  refine wp_region_lit ?_
  refine sx_call HF Tryd.func28 (by kernel_rfl) (by kernel_rfl) rfl (awake8_any w (hL.below HS.kp) (Nat.le_trans h2 HS.kp.size)) rfl rfl ?_; clear HF ac
  rintro _ w ⟨rfl, k1⟩
  refine ⟨_, rfl, fun ac HF => ?_⟩
  replace HS := HS.call k1
  clear k1
  refine sx_y HF HS (yl_assign rfl) rfl rfl ?_; clear HF ac; intro ac HF
  refine wpList_nil ?_
  refine then_n ?_
  refine wp_ret ?_
  refine then_r ?_
  exact rt1 rfl HF HS rfl ⟨rfl, HS.kp⟩

set_option maxRecDepth 100000 in
theorem walk_b (l : List Hsh) (a : Option Addr) (c : Nat) (i : Int) (other : Hsh) (w0 : World) (_hr : Rd w0 a l.length c 32 (hsc l)) (hl : l.length ≤ 70) (hi : i < 0) (hL : Laid w0) (h2 : 2 ≤ w0.heap.size) :
    Calls Tryd.prog 9 #[.slice a l.length c, .int .i64 i, hv other] w0 fun e w' => e = .returned (.bool true) ∧ Kp [] w0 w' := by
  refine calls_st (F := []) (args := [.slice a l.length c, .int .i64 i, hv other]) Tryd.func9 rfl (n := 124) rfl rfl ?_
  intro ac w HF HS
  refine wp_seq ?_
  refine wp_region_lit ?_
  refine sx_ef HF (ef_box (n := 32) HS rfl) rfl rfl ?_; clear HF HS ac; rintro _ w ac ⟨g5, rfl, HS⟩ HF
  refine sx_y HF HS (yl_assign rfl) rfl rfl ?_; clear HF ac; intro ac HF
  refine wpList_nil ?_
  refine then_n ?_
  refine wp_seq ?_
  refine wp_seq ?_
  refine dx_region 21 (by kernel_rfl) HS.drew (fun _ h => h) ?_; clear HS; intro w HS
  have HH := HS
  refine dx_p (i := 0) HF rfl (by kernel_rfl) (by kernel_rfl) (by kernel_rfl) (by decide) (fun _ _ _ h => h) (fun _ => HH) (yl_move rfl) rfl rfl ?_; clear HF ac; intro ac HF
  refine dx_p (i := 1) HF rfl (by kernel_rfl) (by kernel_rfl) (by kernel_rfl) (by decide) (fun _ _ _ h => h) (fun _ => HH) (yl_len_slice Tryd.underlying25 rfl) rfl rfl ?_; clear HF ac; intro ac HF
  refine dx_p (i := 2) HF rfl (by kernel_rfl) (by kernel_rfl) (by kernel_rfl) (by decide) (fun _ _ _ h => h) (fun _ => HH) (yl_gtr rfl rfl (decide_eq_false (by omega))) rfl rfl ?_; clear HF ac; intro ac HF
  refine dx_p (i := 3) HF rfl (by kernel_rfl) (by kernel_rfl) (by kernel_rfl) (by decide) (fun _ _ _ h => h) (fun _ => HH) (yl_move rfl) rfl rfl ?_; clear HF ac; intro ac HF
  refine dx_p (i := 4) HF rfl (by kernel_rfl) (by kernel_rfl) (by kernel_rfl) (by decide) (fun _ _ _ h => h) (fun _ => HH) (yl_move rfl) rfl rfl ?_; clear HF ac; intro ac HF
  refine dx_p (i := 5) HF rfl (by kernel_rfl) (by kernel_rfl) (by kernel_rfl) (by decide) (fun _ _ _ h => h) (fun _ => HH) (yl_lss rfl rfl (decide_eq_true (by omega))) rfl rfl ?_; clear HF ac; intro ac HF
  refine dx_p (i := 6) HF rfl (by kernel_rfl) (by kernel_rfl) (by kernel_rfl) (by decide) (fun _ _ _ h => h) (fun _ => HH) (yl_pick (b := false) rfl rfl) rfl rfl ?_; clear HF ac; intro ac HF
  refine dx_p (i := 7) HF rfl (by kernel_rfl) (by kernel_rfl) (by kernel_rfl) (by decide) (fun _ _ _ h => h) (fun _ => HH) (yl_move rfl) rfl rfl ?_; clear HF ac; intro ac HF
  refine dx_off (i := 8) HF rfl (by kernel_rfl) (by kernel_rfl) (by kernel_rfl) (by decide) (fun _ _ _ h => h) (fun _ => HH) rfl rfl ?_; clear HF ac; intro ac HF
  refine dx_off (i := 9) HF rfl (by kernel_rfl) (by kernel_rfl) (by kernel_rfl) (by decide) (fun _ _ _ h => h) (fun _ => HH) rfl rfl ?_; clear HF ac; intro ac HF
  refine dx_off (i := 10) HF rfl (by kernel_rfl) (by kernel_rfl) (by kernel_rfl) (by decide) (fun _ _ _ h => h) (fun _ => HH) rfl rfl ?_; clear HF ac; intro ac HF
  refine dx_off (i := 11) HF rfl (by kernel_rfl) (by kernel_rfl) (by kernel_rfl) (by decide) (fun _ _ _ h => h) (fun _ => HH) rfl rfl ?_; clear HF ac; intro ac HF
  refine dx_p (i := 12) HF rfl (by kernel_rfl) (by kernel_rfl) (by kernel_rfl) (by decide) (fun _ _ _ h => h) (fun _ => HH) (yl_pick (b := true) rfl rfl) rfl rfl ?_; clear HF ac; intro ac HF
  refine dx_p (i := 13) HF rfl (by kernel_rfl) (by kernel_rfl) (by kernel_rfl) (by decide) (fun _ _ _ h => h) (fun _ => HH) (yl_move rfl) rfl rfl ?_; clear HF ac; intro ac HF
  refine dx_off (i := 14) HF rfl (by kernel_rfl) (by kernel_rfl) (by kernel_rfl) (by decide) (fun _ _ _ h => h) (fun _ => HH) rfl rfl ?_; clear HF ac; intro ac HF
  refine dx_off (i := 15) HF rfl (by kernel_rfl) (by kernel_rfl) (by kernel_rfl) (by decide) (fun _ _ _ h => h) (fun _ => HH) rfl rfl ?_; clear HF ac; intro ac HF
  refine dx_off (i := 16) HF rfl (by kernel_rfl) (by kernel_rfl) (by kernel_rfl) (by decide) (fun _ _ _ h => h) (fun _ => HH) rfl rfl ?_; clear HF ac; intro ac HF
  refine dx_off (i := 17) HF rfl (by kernel_rfl) (by kernel_rfl) (by kernel_rfl) (by decide) (fun _ _ _ h => h) (fun _ => HH) rfl rfl ?_; clear HF ac; intro ac HF
  refine dx_off (i := 18) HF rfl (by kernel_rfl) (by kernel_rfl) (by kernel_rfl) (by decide) (fun _ _ _ h => h) (fun _ => HH) rfl rfl ?_; clear HF ac; intro ac HF
  refine dx_off (i := 19) HF rfl (by kernel_rfl) (by kernel_rfl) (by kernel_rfl) (by decide) (fun _ _ _ h => h) (fun _ => HH) rfl rfl ?_; clear HF ac; intro ac HF
  refine dx_p (i := 20) HF rfl (by kernel_rfl) (by kernel_rfl) (by kernel_rfl) (by decide) (fun _ _ _ h => h) (fun _ => HH) (yl_pick (b := true) rfl rfl) rfl rfl ?_; clear HF ac; intro ac HF
  refine dx_done (by kernel_rfl) ?_
  clear HH
  refine then_n ?_
  refine cx_true HF rfl ?_
  refine wp_seq ?_
  refine wp_region_lit ?_
  refine sx_call HF Tryd.func28 (by kernel_rfl) (by kernel_rfl) rfl (awake8_any w (hL.below HS.kp) (Nat.le_trans h2 HS.kp.size)) rfl rfl ?_; clear HF ac
  rintro _ w ⟨rfl, k1⟩
  refine ⟨_, rfl, fun ac HF => ?_⟩
  replace HS := HS.call k1
  clear k1
  refine sx_y HF HS (yl_assign rfl) rfl rfl ?_; clear HF ac; intro ac HF
  refine wpList_nil ?_
  refine then_n ?_
  refine wp_ret ?_
  refine then_r ?_
  exact rt1 rfl HF HS rfl ⟨rfl, HS.kp⟩

set_option maxRecDepth 100000 in
theorem walk_c (l : List Hsh) (a : Option Addr) (c : Nat) (i : Int) (other : Hsh) (w0 : World) (_hr : Rd w0 a l.length c 32 (hsc l)) (hl : l.length ≤ 70) (hi : ¬ i < 0) (hi2 : (l.length : Int) ≤ i) (hL : Laid w0) (h2 : 2 ≤ w0.heap.size) :
    Calls Tryd.prog 9 #[.slice a l.length c, .int .i64 i, hv other] w0 fun e w' => e = .returned (.bool true) ∧ Kp [] w0 w' := by
  refine calls_st (F := []) (args := [.slice a l.length c, .int .i64 i, hv other]) Tryd.func9 rfl (n := 124) rfl rfl ?_
  intro ac w HF HS
  refine wp_seq ?_
  refine wp_region_lit ?_
  refine sx_ef HF (ef_box (n := 32) HS rfl) rfl rfl ?_; clear HF HS ac; rintro _ w ac ⟨g5, rfl, HS⟩ HF
  refine sx_y HF HS (yl_assign rfl) rfl rfl ?_; clear HF ac; intro ac HF
  refine wpList_nil ?_
  refine then_n ?_
  refine wp_seq ?_
  refine wp_seq ?_
  refine dx_region 21 (by kernel_rfl) HS.drew (fun _ h => h) ?_; clear HS; intro w HS
  have HH := HS
  refine dx_p (i := 0) HF rfl (by kernel_rfl) (by kernel_rfl) (by kernel_rfl) (by decide) (fun _ _ _ h => h) (fun _ => HH) (yl_move rfl) rfl rfl ?_; clear HF ac; intro ac HF
  refine dx_p (i := 1) HF rfl (by kernel_rfl) (by kernel_rfl) (by kernel_rfl) (by decide) (fun _ _ _ h => h) (fun _ => HH) (yl_len_slice Tryd.underlying25 rfl) rfl rfl ?_; clear HF ac; intro ac HF
  refine dx_p (i := 2) HF rfl (by kernel_rfl) (by kernel_rfl) (by kernel_rfl) (by decide) (fun _ _ _ h => h) (fun _ => HH) (yl_gtr rfl rfl (decide_eq_false (by omega))) rfl rfl ?_; clear HF ac; intro ac HF
  refine dx_p (i := 3) HF rfl (by kernel_rfl) (by kernel_rfl) (by kernel_rfl) (by decide) (fun _ _ _ h => h) (fun _ => HH) (yl_move rfl) rfl rfl ?_; clear HF ac; intro ac HF
  refine dx_p (i := 4) HF rfl (by kernel_rfl) (by kernel_rfl) (by kernel_rfl) (by decide) (fun _ _ _ h => h) (fun _ => HH) (yl_move rfl) rfl rfl ?_; clear HF ac; intro ac HF
  refine dx_p (i := 5) HF rfl (by kernel_rfl) (by kernel_rfl) (by kernel_rfl) (by decide) (fun _ _ _ h => h) (fun _ => HH) (yl_lss rfl rfl (decide_eq_false (by omega))) rfl rfl ?_; clear HF ac; intro ac HF
  refine dx_p (i := 6) HF rfl (by kernel_rfl) (by kernel_rfl) (by kernel_rfl) (by decide) (fun _ _ _ h => h) (fun _ => HH) (yl_pick (b := false) rfl rfl) rfl rfl ?_; clear HF ac; intro ac HF
  refine dx_p (i := 7) HF rfl (by kernel_rfl) (by kernel_rfl) (by kernel_rfl) (by decide) (fun _ _ _ h => h) (fun _ => HH) (yl_move rfl) rfl rfl ?_; clear HF ac; intro ac HF
  refine dx_p (i := 8) HF rfl (by kernel_rfl) (by kernel_rfl) (by kernel_rfl) (by decide) (fun _ _ _ h => h) (fun _ => HH) (yl_move rfl) rfl rfl ?_; clear HF ac; intro ac HF
  refine dx_p (i := 9) HF rfl (by kernel_rfl) (by kernel_rfl) (by kernel_rfl) (by decide) (fun _ _ _ h => h) (fun _ => HH) (yl_move rfl) rfl rfl ?_; clear HF ac; intro ac HF
  refine dx_p (i := 10) HF rfl (by kernel_rfl) (by kernel_rfl) (by kernel_rfl) (by decide) (fun _ _ _ h => h) (fun _ => HH) (yl_len_slice Tryd.underlying25 rfl) rfl rfl ?_; clear HF ac; intro ac HF
  refine dx_p (i := 11) HF rfl (by kernel_rfl) (by kernel_rfl) (by kernel_rfl) (by decide) (fun _ _ _ h => h) (fun _ => HH) (yl_geq rfl rfl (decide_eq_true (by omega))) rfl rfl ?_; clear HF ac; intro ac HF
  refine dx_p (i := 12) HF rfl (by kernel_rfl) (by kernel_rfl) (by kernel_rfl) (by decide) (fun _ _ _ h => h) (fun _ => HH) (yl_pick (b := false) rfl rfl) rfl rfl ?_; clear HF ac; intro ac HF
  refine dx_p (i := 13) HF rfl (by kernel_rfl) (by kernel_rfl) (by kernel_rfl) (by decide) (fun _ _ _ h => h) (fun _ => HH) (yl_move rfl) rfl rfl ?_; clear HF ac; intro ac HF
  refine dx_off (i := 14) HF rfl (by kernel_rfl) (by kernel_rfl) (by kernel_rfl) (by decide) (fun _ _ _ h => h) (fun _ => HH) rfl rfl ?_; clear HF ac; intro ac HF
  refine dx_off (i := 15) HF rfl (by kernel_rfl) (by kernel_rfl) (by kernel_rfl) (by decide) (fun _ _ _ h => h) (fun _ => HH) rfl rfl ?_; clear HF ac; intro ac HF
  refine dx_off (i := 16) HF rfl (by kernel_rfl) (by kernel_rfl) (by kernel_rfl) (by decide) (fun _ _ _ h => h) (fun _ => HH) rfl rfl ?_; clear HF ac; intro ac HF
  refine dx_off (i := 17) HF rfl (by kernel_rfl) (by kernel_rfl) (by kernel_rfl) (by decide) (fun _ _ _ h => h) (fun _ => HH) rfl rfl ?_; clear HF ac; intro ac HF
  refine dx_off (i := 18) HF rfl (by kernel_rfl) (by kernel_rfl) (by kernel_rfl) (by decide) (fun _ _ _ h => h) (fun _ => HH) rfl rfl ?_; clear HF ac; intro ac HF
  refine dx_off (i := 19) HF rfl (by kernel_rfl) (by kernel_rfl) (by kernel_rfl) (by decide) (fun _ _ _ h => h) (fun _ => HH) rfl rfl ?_; clear HF ac; intro ac HF
  refine dx_p (i := 20) HF rfl (by kernel_rfl) (by kernel_rfl) (by kernel_rfl) (by decide) (fun _ _ _ h => h) (fun _ => HH) (yl_pick (b := true) rfl rfl) rfl rfl ?_; clear HF ac; intro ac HF
  refine dx_done (by kernel_rfl) ?_
  clear HH
  refine then_n ?_
  refine cx_true HF rfl ?_
  refine wp_seq ?_
  refine wp_region_lit ?_
  refine sx_call HF Tryd.func28 (by kernel_rfl) (by kernel_rfl) rfl (awake8_any w (hL.below HS.kp) (Nat.le_trans h2 HS.kp.size)) rfl rfl ?_; clear HF ac
  rintro _ w ⟨rfl, k1⟩
  refine ⟨_, rfl, fun ac HF => ?_⟩
  replace HS := HS.call k1
  clear k1
  refine sx_y HF HS (yl_assign rfl) rfl rfl ?_; clear HF ac; intro ac HF
  refine wpList_nil ?_
  refine then_n ?_
  refine wp_ret ?_
  refine then_r ?_
  exact rt1 rfl HF HS rfl ⟨rfl, HS.kp⟩

set_option maxRecDepth 100000 in
theorem walk_d (l : List Hsh) (a : Option Addr) (c : Nat) (i : Nat) (other : Hsh) (w0 : World) (hr : Rd w0 a l.length c 32 (hsc l)) (hl : l.length ≤ 70) (hi : i < l.length) (hx : l[i]? = some other) (hL : Laid w0) (h2 : 2 ≤ w0.heap.size) :
    Calls Tryd.prog 9 #[.slice a l.length c, .int .i64 i, hv other] w0 fun e w' => e = .returned (.bool true) ∧ Kp [] w0 w' := by
  refine calls_st (F := []) (args := [.slice a l.length c, .int .i64 i, hv other]) Tryd.func9 rfl (n := 124) rfl rfl ?_
  intro ac w HF HS
  refine wp_seq ?_
  refine wp_region_lit ?_
  refine sx_ef HF (ef_box (n := 32) HS rfl) rfl rfl ?_; clear HF HS ac; rintro _ w ac ⟨g5, rfl, HS⟩ HF
  refine sx_y HF HS (yl_assign rfl) rfl rfl ?_; clear HF ac; intro ac HF
  refine wpList_nil ?_
  refine then_n ?_
  refine wp_seq ?_
  refine wp_seq ?_
  refine dx_region 21 (by kernel_rfl) HS.drew (fun _ h => h) ?_; clear HS; intro w HS
  have HH := HS
  refine dx_p (i := 0) HF rfl (by kernel_rfl) (by kernel_rfl) (by kernel_rfl) (by decide) (fun _ _ _ h => h) (fun _ => HH) (yl_move rfl) rfl rfl ?_; clear HF ac; intro ac HF
  refine dx_p (i := 1) HF rfl (by kernel_rfl) (by kernel_rfl) (by kernel_rfl) (by decide) (fun _ _ _ h => h) (fun _ => HH) (yl_len_slice Tryd.underlying25 rfl) rfl rfl ?_; clear HF ac; intro ac HF
  refine dx_p (i := 2) HF rfl (by kernel_rfl) (by kernel_rfl) (by kernel_rfl) (by decide) (fun _ _ _ h => h) (fun _ => HH) (yl_gtr rfl rfl (decide_eq_false (by omega))) rfl rfl ?_; clear HF ac; intro ac HF
  refine dx_p (i := 3) HF rfl (by kernel_rfl) (by kernel_rfl) (by kernel_rfl) (by decide) (fun _ _ _ h => h) (fun _ => HH) (yl_move rfl) rfl rfl ?_; clear HF ac; intro ac HF
  refine dx_p (i := 4) HF rfl (by kernel_rfl) (by kernel_rfl) (by kernel_rfl) (by decide) (fun _ _ _ h => h) (fun _ => HH) (yl_move rfl) rfl rfl ?_; clear HF ac; intro ac HF
  refine dx_p (i := 5) HF rfl (by kernel_rfl) (by kernel_rfl) (by kernel_rfl) (by decide) (fun _ _ _ h => h) (fun _ => HH) (yl_lss rfl rfl (decide_eq_false (by omega))) rfl rfl ?_; clear HF ac; intro ac HF
  refine dx_p (i := 6) HF rfl (by kernel_rfl) (by kernel_rfl) (by kernel_rfl) (by decide) (fun _ _ _ h => h) (fun _ => HH) (yl_pick (b := false) rfl rfl) rfl rfl ?_; clear HF ac; intro ac HF
  refine dx_p (i := 7) HF rfl (by kernel_rfl) (by kernel_rfl) (by kernel_rfl) (by decide) (fun _ _ _ h => h) (fun _ => HH) (yl_move rfl) rfl rfl ?_; clear HF ac; intro ac HF
  refine dx_p (i := 8) HF rfl (by kernel_rfl) (by kernel_rfl) (by kernel_rfl) (by decide) (fun _ _ _ h => h) (fun _ => HH) (yl_move rfl) rfl rfl ?_; clear HF ac; intro ac HF
  refine dx_p (i := 9) HF rfl (by kernel_rfl) (by kernel_rfl) (by kernel_rfl) (by decide) (fun _ _ _ h => h) (fun _ => HH) (yl_move rfl) rfl rfl ?_; clear HF ac; intro ac HF
  refine dx_p (i := 10) HF rfl (by kernel_rfl) (by kernel_rfl) (by kernel_rfl) (by decide) (fun _ _ _ h => h) (fun _ => HH) (yl_len_slice Tryd.underlying25 rfl) rfl rfl ?_; clear HF ac; intro ac HF
  refine dx_p (i := 11) HF rfl (by kernel_rfl) (by kernel_rfl) (by kernel_rfl) (by decide) (fun _ _ _ h => h) (fun _ => HH) (yl_geq rfl rfl (decide_eq_false (by omega))) rfl rfl ?_; clear HF ac; intro ac HF
  refine dx_p (i := 12) HF rfl (by kernel_rfl) (by kernel_rfl) (by kernel_rfl) (by decide) (fun _ _ _ h => h) (fun _ => HH) (yl_pick (b := false) rfl rfl) rfl rfl ?_; clear HF ac; intro ac HF
  refine dx_p (i := 13) HF rfl (by kernel_rfl) (by kernel_rfl) (by kernel_rfl) (by decide) (fun _ _ _ h => h) (fun _ => HH) (yl_move rfl) rfl rfl ?_; clear HF ac; intro ac HF
  refine dx_k (i := 14) HF rfl (by kernel_rfl) (by kernel_rfl) (by kernel_rfl) (by kernel_rfl) (by kernel_rfl) (fun _ _ _ h => h) HH (ld_ag ag38 rfl rfl) rfl rfl ?_; clear HF ac; intro ac HF
  refine dx_p (i := 15) HF rfl (by kernel_rfl) (by kernel_rfl) (by kernel_rfl) (by decide) (fun _ _ _ h => h) (fun _ => HH) (yl_move rfl) rfl rfl ?_; clear HF ac; intro ac HF
  refine dx_p (i := 16) HF rfl (by kernel_rfl) (by kernel_rfl) (by kernel_rfl) (by decide) (fun _ _ _ h => h) (fun _ => HH) (yl_move rfl) rfl rfl ?_; clear HF ac; intro ac HF
  refine dx_p (i := 17) HF rfl (by kernel_rfl) (by kernel_rfl) (by kernel_rfl) (by decide) (fun _ _ _ h => h) (fun _ => HH) (ix_sl Tryd.underlying25 sz38 rfl rfl (by omega) hr.nil0) rfl rfl ?_; clear HF ac; intro ac HF
  refine dx_k (i := 18) HF rfl (by kernel_rfl) (by kernel_rfl) (by kernel_rfl) (by kernel_rfl) (by kernel_rfl) (fun _ _ _ h => h) HH (ld_elH ag38 rfl hx (fun w h => hr.below h.kp)) rfl rfl ?_; clear HF ac; intro ac HF
  refine dx_p (i := 19) HF rfl (by kernel_rfl) (by kernel_rfl) (by kernel_rfl) (by decide) (fun _ _ _ h => h) (fun _ => HH) (Tryd.yl_eqH rfl rfl (decide_eq_true (by exact rfl))) rfl rfl ?_; clear HF ac; intro ac HF
  refine dx_p (i := 20) HF rfl (by kernel_rfl) (by kernel_rfl) (by kernel_rfl) (by decide) (fun _ _ _ h => h) (fun _ => HH) (yl_pick (b := false) rfl rfl) rfl rfl ?_; clear HF ac; intro ac HF
  refine dx_done (by kernel_rfl) ?_
  clear HH
  refine then_n ?_
  refine cx_true HF rfl ?_
  refine wp_seq ?_
  refine wp_region_lit ?_
  refine sx_call HF Tryd.func28 (by kernel_rfl) (by kernel_rfl) rfl (awake8_any w (hL.below HS.kp) (Nat.le_trans h2 HS.kp.size)) rfl rfl ?_; clear HF ac
  rintro _ w ⟨rfl, k1⟩
  refine ⟨_, rfl, fun ac HF => ?_⟩
  replace HS := HS.call k1
  clear k1
  refine sx_y HF HS (yl_assign rfl) rfl rfl ?_; clear HF ac; intro ac HF
  refine wpList_nil ?_
  refine then_n ?_
  refine wp_ret ?_
  refine then_r ?_
  exact rt1 rfl HF HS rfl ⟨rfl, HS.kp⟩

set_option maxRecDepth 100000 in
theorem walk_e (l : List Hsh) (a : Option Addr) (c : Nat) (i : Nat) (other : Hsh) (w0 : World) (hr : Rd w0 a l.length c 32 (hsc l)) (hl : l.length ≤ 70) (hi : i < l.length) (x : Hsh) (hx : l[i]? = some x) (hne : ¬ other = x) (v : Int) (hv0 : v ≠ 0) (hvv : inV (rootH l) (leadF i (l.length - 1) other (pathH l i)) = v) (hL : Laid w0) (h2 : 2 ≤ w0.heap.size) :
    Calls Tryd.prog 9 #[.slice a l.length c, .int .i64 i, hv other] w0 fun e w' => e = .returned (.bool true) ∧ Kp [] w0 w' := by
  have HP := fun w (k : Kp [] w0 w) => path_any l a c i w (hr.below k) (by omega) hi (hL.below k) (Nat.le_trans h2 k.size)
  have hin := path_right l i x hx (by omega)
  unfold Path at HP
  have HR := fun w (k : Kp [] w0 w) => root_any l a c w (hr.below k) (hL.below k) (Nat.le_trans h2 k.size)
  generalize pathH l i = p at *
  generalize rootH l = rt at *
  have HIN := fun a7 c7 w (k : Kp [] w0 w) (hrd : Rd w a7 p.length c7 32 (hsc p)) => in_good other rt i l.length p a7 c7 w hrd hi (by omega) (hL.below k) (Nat.le_trans h2 k.size)
  rw [hvv] at HIN
  have hll : l.length - 1 ≤ 100 := by omega
  have hiz : i ≤ l.length - 1 := by omega
  refine calls_st (F := []) (args := [.slice a l.length c, .int .i64 i, hv other]) Tryd.func9 rfl (n := 124) rfl rfl ?_
  intro ac w HF HS
  refine wp_seq ?_
  refine wp_region_lit ?_
  refine sx_ef HF (ef_box (n := 32) HS rfl) rfl rfl ?_; clear HF HS ac; rintro _ w ac ⟨g5, rfl, HS⟩ HF
  refine sx_y HF HS (yl_assign rfl) rfl rfl ?_; clear HF ac; intro ac HF
  refine wpList_nil ?_
  refine then_n ?_
  refine wp_seq ?_
  refine wp_seq ?_
  refine dx_region 21 (by kernel_rfl) HS.drew (fun _ h => h) ?_; clear HS; intro w HS
  have HH := HS
  refine dx_p (i := 0) HF rfl (by kernel_rfl) (by kernel_rfl) (by kernel_rfl) (by decide) (fun _ _ _ h => h) (fun _ => HH) (yl_move rfl) rfl rfl ?_; clear HF ac; intro ac HF
  refine dx_p (i := 1) HF rfl (by kernel_rfl) (by kernel_rfl) (by kernel_rfl) (by decide) (fun _ _ _ h => h) (fun _ => HH) (yl_len_slice Tryd.underlying25 rfl) rfl rfl ?_; clear HF ac; intro ac HF
  refine dx_p (i := 2) HF rfl (by kernel_rfl) (by kernel_rfl) (by kernel_rfl) (by decide) (fun _ _ _ h => h) (fun _ => HH) (yl_gtr rfl rfl (decide_eq_false (by omega))) rfl rfl ?_; clear HF ac; intro ac HF
  refine dx_p (i := 3) HF rfl (by kernel_rfl) (by kernel_rfl) (by kernel_rfl) (by decide) (fun _ _ _ h => h) (fun _ => HH) (yl_move rfl) rfl rfl ?_; clear HF ac; intro ac HF
  refine dx_p (i := 4) HF rfl (by kernel_rfl) (by kernel_rfl) (by kernel_rfl) (by decide) (fun _ _ _ h => h) (fun _ => HH) (yl_move rfl) rfl rfl ?_; clear HF ac; intro ac HF
  refine dx_p (i := 5) HF rfl (by kernel_rfl) (by kernel_rfl) (by kernel_rfl) (by decide) (fun _ _ _ h => h) (fun _ => HH) (yl_lss rfl rfl (decide_eq_false (by omega))) rfl rfl ?_; clear HF ac; intro ac HF
  refine dx_p (i := 6) HF rfl (by kernel_rfl) (by kernel_rfl) (by kernel_rfl) (by decide) (fun _ _ _ h => h) (fun _ => HH) (yl_pick (b := false) rfl rfl) rfl rfl ?_; clear HF ac; intro ac HF
  refine dx_p (i := 7) HF rfl (by kernel_rfl) (by kernel_rfl) (by kernel_rfl) (by decide) (fun _ _ _ h => h) (fun _ => HH) (yl_move rfl) rfl rfl ?_; clear HF ac; intro ac HF
  refine dx_p (i := 8) HF rfl (by kernel_rfl) (by kernel_rfl) (by kernel_rfl) (by decide) (fun _ _ _ h => h) (fun _ => HH) (yl_move rfl) rfl rfl ?_; clear HF ac; intro ac HF
  refine dx_p (i := 9) HF rfl (by kernel_rfl) (by kernel_rfl) (by kernel_rfl) (by decide) (fun _ _ _ h => h) (fun _ => HH) (yl_move rfl) rfl rfl ?_; clear HF ac; intro ac HF
  refine dx_p (i := 10) HF rfl (by kernel_rfl) (by kernel_rfl) (by kernel_rfl) (by decide) (fun _ _ _ h => h) (fun _ => HH) (yl_len_slice Tryd.underlying25 rfl) rfl rfl ?_; clear HF ac; intro ac HF
  refine dx_p (i := 11) HF rfl (by kernel_rfl) (by kernel_rfl) (by kernel_rfl) (by decide) (fun _ _ _ h => h) (fun _ => HH) (yl_geq rfl rfl (decide_eq_false (by omega))) rfl rfl ?_; clear HF ac; intro ac HF
  refine dx_p (i := 12) HF rfl (by kernel_rfl) (by kernel_rfl) (by kernel_rfl) (by decide) (fun _ _ _ h => h) (fun _ => HH) (yl_pick (b := false) rfl rfl) rfl rfl ?_; clear HF ac; intro ac HF
  refine dx_p (i := 13) HF rfl (by kernel_rfl) (by kernel_rfl) (by kernel_rfl) (by decide) (fun _ _ _ h => h) (fun _ => HH) (yl_move rfl) rfl rfl ?_; clear HF ac; intro ac HF
  refine dx_k (i := 14) HF rfl (by kernel_rfl) (by kernel_rfl) (by kernel_rfl) (by kernel_rfl) (by kernel_rfl) (fun _ _ _ h => h) HH (ld_ag ag38 rfl rfl) rfl rfl ?_; clear HF ac; intro ac HF
  refine dx_p (i := 15) HF rfl (by kernel_rfl) (by kernel_rfl) (by kernel_rfl) (by decide) (fun _ _ _ h => h) (fun _ => HH) (yl_move rfl) rfl rfl ?_; clear HF ac; intro ac HF
  refine dx_p (i := 16) HF rfl (by kernel_rfl) (by kernel_rfl) (by kernel_rfl) (by decide) (fun _ _ _ h => h) (fun _ => HH) (yl_move rfl) rfl rfl ?_; clear HF ac; intro ac HF
  refine dx_p (i := 17) HF rfl (by kernel_rfl) (by kernel_rfl) (by kernel_rfl) (by decide) (fun _ _ _ h => h) (fun _ => HH) (ix_sl Tryd.underlying25 sz38 rfl rfl (by omega) hr.nil0) rfl rfl ?_; clear HF ac; intro ac HF
  refine dx_k (i := 18) HF rfl (by kernel_rfl) (by kernel_rfl) (by kernel_rfl) (by kernel_rfl) (by kernel_rfl) (fun _ _ _ h => h) HH (ld_elH ag38 rfl hx (fun w h => hr.below h.kp)) rfl rfl ?_; clear HF ac; intro ac HF
  refine dx_p (i := 19) HF rfl (by kernel_rfl) (by kernel_rfl) (by kernel_rfl) (by decide) (fun _ _ _ h => h) (fun _ => HH) (Tryd.yl_eqH rfl rfl (decide_eq_false (by exact hne))) rfl rfl ?_; clear HF ac; intro ac HF
  refine dx_p (i := 20) HF rfl (by kernel_rfl) (by kernel_rfl) (by kernel_rfl) (by decide) (fun _ _ _ h => h) (fun _ => HH) (yl_pick (b := false) rfl rfl) rfl rfl ?_; clear HF ac; intro ac HF
  refine dx_done (by kernel_rfl) ?_
  clear HH
  refine then_n ?_
  refine cx_false HF rfl ?_
  refine wp_skip ?_
  refine then_n ?_
  refine wp_seq ?_
  refine wp_region_lit ?_
  refine sx_y HF HS (yl_move rfl) rfl rfl ?_; clear HF ac; intro ac HF
  refine sx_y HF HS (yl_move rfl) rfl rfl ?_; clear HF ac; intro ac HF
  refine sx_call HF Tryd.func17 (by kernel_rfl) (by kernel_rfl) rfl (HP w HS.kp) rfl rfl ?_; clear HF ac
  rintro _ w ⟨_, rfl, a7, c7, rfl, o7, f7, k7⟩
  refine ⟨_, rfl, fun ac HF => ?_⟩
  replace HS := HS.addRow k7 o7 f7
  clear o7 f7 k7
  refine sx_y HF HS (yl_move rfl) rfl rfl ?_; clear HF ac; intro ac HF
  refine sx_y HF HS (yl_extract rfl rfl) rfl rfl ?_; clear HF ac; intro ac HF
  refine sx_y HF HS (yl_extract rfl rfl) rfl rfl ?_; clear HF ac; intro ac HF
  refine sx_y HF HS (yl_assign rfl) rfl rfl ?_; clear HF ac; intro ac HF
  refine sx_y HF HS (yl_assign rfl) rfl rfl ?_; clear HF ac; intro ac HF
  refine wpList_nil ?_
  refine then_n ?_
  refine wp_seq ?_
  refine wp_seq ?_
  refine wp_region_lit ?_
  refine sx_y HF HS (yl_move rfl) rfl rfl ?_; clear HF ac; intro ac HF
  refine sx_y HF HS (yl_neq rfl rfl (decide_eq_false (by omega))) rfl rfl ?_; clear HF ac; intro ac HF
  refine wpList_nil ?_
  refine then_n ?_
  refine cx_false HF rfl ?_
  refine wp_skip ?_
  refine then_n ?_
  refine wp_seq ?_
  refine wp_seq ?_
  refine dx_region 9 (by kernel_rfl) HS.drew (fun _ h => h) ?_; clear HS; intro w HS
  have HH := HS
  refine dx_k (i := 0) HF rfl (by kernel_rfl) (by kernel_rfl) (by kernel_rfl) (by kernel_rfl) (by kernel_rfl) (fun _ _ _ h => h) HH (ld_ag ag38 rfl rfl) rfl rfl ?_; clear HF ac; intro ac HF
  refine dx_p (i := 1) HF rfl (by kernel_rfl) (by kernel_rfl) (by kernel_rfl) (by decide) (fun _ _ _ h => h) (fun _ => HH) (yl_move rfl) rfl rfl ?_; clear HF ac; intro ac HF
  refine dx_p (i := 2) HF rfl (by kernel_rfl) (by kernel_rfl) (by kernel_rfl) (by decide) (fun _ _ _ h => h) (fun _ => HH) (yl_move rfl) rfl rfl ?_; clear HF ac; intro ac HF
  refine dx_p (i := 3) HF rfl (by kernel_rfl) (by kernel_rfl) (by kernel_rfl) (by decide) (fun _ _ _ h => h) (fun _ => HH) (yl_len_slice Tryd.underlying25 rfl) rfl rfl ?_; clear HF ac; intro ac HF
  refine dx_p (i := 4) HF rfl (by kernel_rfl) (by kernel_rfl) (by kernel_rfl) (by decide) (fun _ _ _ h => h) (fun _ => HH) (yl_move rfl) rfl rfl ?_; clear HF ac; intro ac HF
  refine dx_p (i := 5) HF rfl (by kernel_rfl) (by kernel_rfl) (by kernel_rfl) (by decide) (fun _ _ _ h => h) (fun _ => HH) (yl_move rfl) rfl rfl ?_; clear HF ac; intro ac HF
  refine dx_one (i := 6) (by kernel_rfl) ?_
  refine op_call (i := 6) HF rfl Tryd.func23 (by kernel_rfl) (by kernel_rfl) rfl (HR w HS.kp) rfl rfl ?_; clear HF ac
  rintro _ w ⟨rfl, k1⟩
  refine ⟨_, rfl, fun ac HF => ?_⟩
  replace HH := HH.call k1
  replace HS := HS.call k1
  clear k1
  refine ⟨fun _ => HH, ?_⟩
  refine dx_one (i := 7) (by kernel_rfl) ?_
  refine op_call (i := 7) HF rfl Tryd.func31 (by kernel_rfl) (by kernel_rfl) rfl (HIN a7 c7 w HS.kp HS.row0) rfl rfl ?_; clear HF ac
  rintro _ w ⟨rfl, k1⟩
  refine ⟨_, rfl, fun ac HF => ?_⟩
  replace HH := HH.call k1
  replace HS := HS.call k1
  clear k1
  refine ⟨fun _ => HH, ?_⟩
  refine dx_p (i := 8) HF rfl (by kernel_rfl) (by kernel_rfl) (by kernel_rfl) (by decide) (fun _ _ _ h => h) (fun _ => HH) (yl_neq rfl rfl (decide_eq_true (by exact hv0))) rfl rfl ?_; clear HF ac; intro ac HF
  refine dx_done (by kernel_rfl) ?_
  clear HH
  refine then_n ?_
  refine cx_true HF rfl ?_
  refine wp_seq ?_
  refine wp_region_lit ?_
  refine sx_call HF Tryd.func28 (by kernel_rfl) (by kernel_rfl) rfl (awake8_any w (hL.below HS.kp) (Nat.le_trans h2 HS.kp.size)) rfl rfl ?_; clear HF ac
  rintro _ w ⟨rfl, k1⟩
  refine ⟨_, rfl, fun ac HF => ?_⟩
  replace HS := HS.call k1
  clear k1
  refine sx_y HF HS (yl_assign rfl) rfl rfl ?_; clear HF ac; intro ac HF
  refine wpList_nil ?_
  refine then_n ?_
  refine wp_ret ?_
  refine then_r ?_
  exact rt1 rfl HF HS rfl ⟨rfl, HS.kp⟩

set_option maxRecDepth 100000 in
theorem walk_f (l : List Hsh) (a : Option Addr) (c : Nat) (i : Nat) (other : Hsh) (w0 : World) (hr : Rd w0 a l.length c 32 (hsc l)) (hl : l.length ≤ 70) (hi : i < l.length) (x : Hsh) (hx : l[i]? = some x) (hne : ¬ other = x) (hio : leadF i (l.length - 1) other (pathH l i) = some (rootH l)) (hvv : inV (rootH l) (leadF i (l.length - 1) other (pathH l i)) = 0) (hL : Laid w0) (h2 : 2 ≤ w0.heap.size) :
    Calls Tryd.prog 9 #[.slice a l.length c, .int .i64 i, hv other] w0 fun e w' => e = .returned (.bool true) ∧ Kp [] w0 w' := by
  have HP := fun w (k : Kp [] w0 w) => path_any l a c i w (hr.below k) (by omega) hi (hL.below k) (Nat.le_trans h2 k.size)
  have hin := path_right l i x hx (by omega)
  unfold Path at HP
  have HR := fun w (k : Kp [] w0 w) => root_any l a c w (hr.below k) (hL.below k) (Nat.le_trans h2 k.size)
  generalize pathH l i = p at *
  generalize rootH l = rt at *
  have HIN := fun a7 c7 w (k : Kp [] w0 w) (hrd : Rd w a7 p.length c7 32 (hsc p)) => in_good other rt i l.length p a7 c7 w hrd hi (by omega) (hL.below k) (Nat.le_trans h2 k.size)
  rw [hvv] at HIN
  have hll : l.length - 1 ≤ 100 := by omega
  have hiz : i ≤ l.length - 1 := by omega
  refine calls_st (F := []) (args := [.slice a l.length c, .int .i64 i, hv other]) Tryd.func9 rfl (n := 124) rfl rfl ?_
  intro ac w HF HS
  refine wp_seq ?_
  refine wp_region_lit ?_
  refine sx_ef HF (ef_box (n := 32) HS rfl) rfl rfl ?_; clear HF HS ac; rintro _ w ac ⟨g5, rfl, HS⟩ HF
  refine sx_y HF HS (yl_assign rfl) rfl rfl ?_; clear HF ac; intro ac HF
  refine wpList_nil ?_
  refine then_n ?_
  refine wp_seq ?_
  refine wp_seq ?_
  refine dx_region 21 (by kernel_rfl) HS.drew (fun _ h => h) ?_; clear HS; intro w HS
  have HH := HS
  refine dx_p (i := 0) HF rfl (by kernel_rfl) (by kernel_rfl) (by kernel_rfl) (by decide) (fun _ _ _ h => h) (fun _ => HH) (yl_move rfl) rfl rfl ?_; clear HF ac; intro ac HF
  refine dx_p (i := 1) HF rfl (by kernel_rfl) (by kernel_rfl) (by kernel_rfl) (by decide) (fun _ _ _ h => h) (fun _ => HH) (yl_len_slice Tryd.underlying25 rfl) rfl rfl ?_; clear HF ac; intro ac HF
  refine dx_p (i := 2) HF rfl (by kernel_rfl) (by kernel_rfl) (by kernel_rfl) (by decide) (fun _ _ _ h => h) (fun _ => HH) (yl_gtr rfl rfl (decide_eq_false (by omega))) rfl rfl ?_; clear HF ac; intro ac HF
  refine dx_p (i := 3) HF rfl (by kernel_rfl) (by kernel_rfl) (by kernel_rfl) (by decide) (fun _ _ _ h => h) (fun _ => HH) (yl_move rfl) rfl rfl ?_; clear HF ac; intro ac HF
  refine dx_p (i := 4) HF rfl (by kernel_rfl) (by kernel_rfl) (by kernel_rfl) (by decide) (fun _ _ _ h => h) (fun _ => HH) (yl_move rfl) rfl rfl ?_; clear HF ac; intro ac HF
  refine dx_p (i := 5) HF rfl (by kernel_rfl) (by kernel_rfl) (by kernel_rfl) (by decide) (fun _ _ _ h => h) (fun _ => HH) (yl_lss rfl rfl (decide_eq_false (by omega))) rfl rfl ?_; clear HF ac; intro ac HF
  refine dx_p (i := 6) HF rfl (by kernel_rfl) (by kernel_rfl) (by kernel_rfl) (by decide) (fun _ _ _ h => h) (fun _ => HH) (yl_pick (b := false) rfl rfl) rfl rfl ?_; clear HF ac; intro ac HF
  refine dx_p (i := 7) HF rfl (by kernel_rfl) (by kernel_rfl) (by kernel_rfl) (by decide) (fun _ _ _ h => h) (fun _ => HH) (yl_move rfl) rfl rfl ?_; clear HF ac; intro ac HF
  refine dx_p (i := 8) HF rfl (by kernel_rfl) (by kernel_rfl) (by kernel_rfl) (by decide) (fun _ _ _ h => h) (fun _ => HH) (yl_move rfl) rfl rfl ?_; clear HF ac; intro ac HF
  refine dx_p (i := 9) HF rfl (by kernel_rfl) (by kernel_rfl) (by kernel_rfl) (by decide) (fun _ _ _ h => h) (fun _ => HH) (yl_move rfl) rfl rfl ?_; clear HF ac; intro ac HF
  refine dx_p (i := 10) HF rfl (by kernel_rfl) (by kernel_rfl) (by kernel_rfl) (by decide) (fun _ _ _ h => h) (fun _ => HH) (yl_len_slice Tryd.underlying25 rfl) rfl rfl ?_; clear HF ac; intro ac HF
  refine dx_p (i := 11) HF rfl (by kernel_rfl) (by kernel_rfl) (by kernel_rfl) (by decide) (fun _ _ _ h => h) (fun _ => HH) (yl_geq rfl rfl (decide_eq_false (by omega))) rfl rfl ?_; clear HF ac; intro ac HF
  refine dx_p (i := 12) HF rfl (by kernel_rfl) (by kernel_rfl) (by kernel_rfl) (by decide) (fun _ _ _ h => h) (fun _ => HH) (yl_pick (b := false) rfl rfl) rfl rfl ?_; clear HF ac; intro ac HF
  refine dx_p (i := 13) HF rfl (by kernel_rfl) (by kernel_rfl) (by kernel_rfl) (by decide) (fun _ _ _ h => h) (fun _ => HH) (yl_move rfl) rfl rfl ?_; clear HF ac; intro ac HF
  refine dx_k (i := 14) HF rfl (by kernel_rfl) (by kernel_rfl) (by kernel_rfl) (by kernel_rfl) (by kernel_rfl) (fun _ _ _ h => h) HH (ld_ag ag38 rfl rfl) rfl rfl ?_; clear HF ac; intro ac HF
  refine dx_p (i := 15) HF rfl (by kernel_rfl) (by kernel_rfl) (by kernel_rfl) (by decide) (fun _ _ _ h => h) (fun _ => HH) (yl_move rfl) rfl rfl ?_; clear HF ac; intro ac HF
  refine dx_p (i := 16) HF rfl (by kernel_rfl) (by kernel_rfl) (by kernel_rfl) (by decide) (fun _ _ _ h => h) (fun _ => HH) (yl_move rfl) rfl rfl ?_; clear HF ac; intro ac HF
  refine dx_p (i := 17) HF rfl (by kernel_rfl) (by kernel_rfl) (by kernel_rfl) (by decide) (fun _ _ _ h => h) (fun _ => HH) (ix_sl Tryd.underlying25 sz38 rfl rfl (by omega) hr.nil0) rfl rfl ?_; clear HF ac; intro ac HF
  refine dx_k (i := 18) HF rfl (by kernel_rfl) (by kernel_rfl) (by kernel_rfl) (by kernel_rfl) (by kernel_rfl) (fun _ _ _ h => h) HH (ld_elH ag38 rfl hx (fun w h => hr.below h.kp)) rfl rfl ?_; clear HF ac; intro ac HF
  refine dx_p (i := 19) HF rfl (by kernel_rfl) (by kernel_rfl) (by kernel_rfl) (by decide) (fun _ _ _ h => h) (fun _ => HH) (Tryd.yl_eqH rfl rfl (decide_eq_false (by exact hne))) rfl rfl ?_; clear HF ac; intro ac HF
  refine dx_p (i := 20) HF rfl (by kernel_rfl) (by kernel_rfl) (by kernel_rfl) (by decide) (fun _ _ _ h => h) (fun _ => HH) (yl_pick (b := false) rfl rfl) rfl rfl ?_; clear HF ac; intro ac HF
  refine dx_done (by kernel_rfl) ?_
  clear HH
  refine then_n ?_
  refine cx_false HF rfl ?_
  refine wp_skip ?_
  refine then_n ?_
  refine wp_seq ?_
  refine wp_region_lit ?_
  refine sx_y HF HS (yl_move rfl) rfl rfl ?_; clear HF ac; intro ac HF
  refine sx_y HF HS (yl_move rfl) rfl rfl ?_; clear HF ac; intro ac HF
  refine sx_call HF Tryd.func17 (by kernel_rfl) (by kernel_rfl) rfl (HP w HS.kp) rfl rfl ?_; clear HF ac
  rintro _ w ⟨_, rfl, a7, c7, rfl, o7, f7, k7⟩
  refine ⟨_, rfl, fun ac HF => ?_⟩
  replace HS := HS.addRow k7 o7 f7
  clear o7 f7 k7
  refine sx_y HF HS (yl_move rfl) rfl rfl ?_; clear HF ac; intro ac HF
  refine sx_y HF HS (yl_extract rfl rfl) rfl rfl ?_; clear HF ac; intro ac HF
  refine sx_y HF HS (yl_extract rfl rfl) rfl rfl ?_; clear HF ac; intro ac HF
  refine sx_y HF HS (yl_assign rfl) rfl rfl ?_; clear HF ac; intro ac HF
  refine sx_y HF HS (yl_assign rfl) rfl rfl ?_; clear HF ac; intro ac HF
  refine wpList_nil ?_
  refine then_n ?_
  refine wp_seq ?_
  refine wp_seq ?_
  refine wp_region_lit ?_
  refine sx_y HF HS (yl_move rfl) rfl rfl ?_; clear HF ac; intro ac HF
  refine sx_y HF HS (yl_neq rfl rfl (decide_eq_false (by omega))) rfl rfl ?_; clear HF ac; intro ac HF
  refine wpList_nil ?_
  refine then_n ?_
  refine cx_false HF rfl ?_
  refine wp_skip ?_
  refine then_n ?_
  refine wp_seq ?_
  refine wp_seq ?_
  refine dx_region 9 (by kernel_rfl) HS.drew (fun _ h => h) ?_; clear HS; intro w HS
  have HH := HS
  refine dx_k (i := 0) HF rfl (by kernel_rfl) (by kernel_rfl) (by kernel_rfl) (by kernel_rfl) (by kernel_rfl) (fun _ _ _ h => h) HH (ld_ag ag38 rfl rfl) rfl rfl ?_; clear HF ac; intro ac HF
  refine dx_p (i := 1) HF rfl (by kernel_rfl) (by kernel_rfl) (by kernel_rfl) (by decide) (fun _ _ _ h => h) (fun _ => HH) (yl_move rfl) rfl rfl ?_; clear HF ac; intro ac HF
  refine dx_p (i := 2) HF rfl (by kernel_rfl) (by kernel_rfl) (by kernel_rfl) (by decide) (fun _ _ _ h => h) (fun _ => HH) (yl_move rfl) rfl rfl ?_; clear HF ac; intro ac HF
  refine dx_p (i := 3) HF rfl (by kernel_rfl) (by kernel_rfl) (by kernel_rfl) (by decide) (fun _ _ _ h => h) (fun _ => HH) (yl_len_slice Tryd.underlying25 rfl) rfl rfl ?_; clear HF ac; intro ac HF
  refine dx_p (i := 4) HF rfl (by kernel_rfl) (by kernel_rfl) (by kernel_rfl) (by decide) (fun _ _ _ h => h) (fun _ => HH) (yl_move rfl) rfl rfl ?_; clear HF ac; intro ac HF
  refine dx_p (i := 5) HF rfl (by kernel_rfl) (by kernel_rfl) (by kernel_rfl) (by decide) (fun _ _ _ h => h) (fun _ => HH) (yl_move rfl) rfl rfl ?_; clear HF ac; intro ac HF
  refine dx_one (i := 6) (by kernel_rfl) ?_
  refine op_call (i := 6) HF rfl Tryd.func23 (by kernel_rfl) (by kernel_rfl) rfl (HR w HS.kp) rfl rfl ?_; clear HF ac
  rintro _ w ⟨rfl, k1⟩
  refine ⟨_, rfl, fun ac HF => ?_⟩
  replace HH := HH.call k1
  replace HS := HS.call k1
  clear k1
  refine ⟨fun _ => HH, ?_⟩
  refine dx_one (i := 7) (by kernel_rfl) ?_
  refine op_call (i := 7) HF rfl Tryd.func31 (by kernel_rfl) (by kernel_rfl) rfl (HIN a7 c7 w HS.kp HS.row0) rfl rfl ?_; clear HF ac
  rintro _ w ⟨rfl, k1⟩
  refine ⟨_, rfl, fun ac HF => ?_⟩
  replace HH := HH.call k1
  replace HS := HS.call k1
  clear k1
  refine ⟨fun _ => HH, ?_⟩
  refine dx_p (i := 8) HF rfl (by kernel_rfl) (by kernel_rfl) (by kernel_rfl) (by decide) (fun _ _ _ h => h) (fun _ => HH) (yl_neq rfl rfl (decide_eq_false (by exact (fun h => h rfl)))) rfl rfl ?_; clear HF ac; intro ac HF
  refine dx_done (by kernel_rfl) ?_
  clear HH
  refine then_n ?_
  refine cx_false HF rfl ?_
  refine wp_skip ?_
  refine then_n ?_
  refine wp_seq ?_
  replace HF := HF.sub (m' := [(0, _), (1, _), (5, _), (6, _), (7, _)]) (by repeat (first | exact ag_nil | refine ag_cons rfl ?_))
  refine dx_join HF HS (fun m L R ac w => ∃ g9 g10, Fr ([(9, .pointer (some ⟨g9, 0, none⟩)), (10, .pointer (some ⟨g10, 0, none⟩))] ++ m) 124 ac ∧ St [] w0 (⟨g10, sgA [(32, hv other)], 38⟩ :: ⟨g9, sgA [(32, hv x)], 38⟩ :: L) R w) ?_ ?_
  · clear HF HS ac w
    rintro ac w ⟨g9, g10, HF, HS⟩
    refine then_n ?_
    refine wp_seq ?_
    refine wp_region_lit ?_
    refine sx_y HF HS (yl_move rfl) rfl rfl ?_; clear HF ac; intro ac HF
    refine sx_y HF HS (yl_move rfl) rfl rfl ?_; clear HF ac; intro ac HF
    refine sx_y HF HS (yl_len_slice Tryd.underlying25 rfl) rfl rfl ?_; clear HF ac; intro ac HF
    refine sx_y HF HS (yl_sub64 (r := ((l.length - 1 : Nat) : Int)) rfl rfl (by omega) (by omega)) rfl rfl ?_; clear HF ac; intro ac HF
    refine sx_y HF HS (yl_assign rfl) rfl rfl ?_; clear HF ac; intro ac HF
    refine sx_y HF HS (yl_assign rfl) rfl rfl ?_; clear HF ac; intro ac HF
    refine wpList_nil ?_
    refine then_n ?_
    refine wp_seq ?_
    refine wp_seq ?_
    refine wp_region_lit ?_
    refine sx_y HF HS (yl_move rfl) rfl rfl ?_; clear HF ac; intro ac HF
    refine sx_y HF HS (yl_len_slice Tryd.underlying25 rfl) rfl rfl ?_; clear HF ac; intro ac HF
    refine sx_y HF HS (yl_move rfl) rfl rfl ?_; clear HF ac; intro ac HF
    refine wpList_nil ?_
    refine then_n ?_
    refine wp_block ?_
    replace HF := HF.sub (m' := [(9, _), (10, _), (67, _), (68, _), (69, _), (11, _), (12, _)]) (by repeat (first | exact ag_nil | refine ag_cons rfl ?_))
    refine cx_loop (m := [(9, _), (10, _), (67, _), (68, _)]) (HF.sub (by repeat (first | exact ag_nil | refine ag_cons rfl ?_))) (fun m d ac w => ∃ (k u z : Nat) (x y : Hsh), k ≤ p.length ∧ u ≤ z ∧ z ≤ 100 ∧ leadF u z x (p.drop k) = some rt ∧ leadF u z y (p.drop k) = some rt ∧ ¬ x = y ∧ d = p.length - k ∧ Fr ([(69, .int .i64 (k : Int)), (11, .int .i64 (u : Int)), (12, .int .i64 (z : Int))] ++ m) 124 ac ∧ St [] w0 [⟨g10, sgA [(32, hv y)], 38⟩, ⟨g9, sgA [(32, hv x)], 38⟩, ⟨g5, sgA [(32, hv other)], 38⟩] [⟨38, 32, a7, p.length, c7, hsc p⟩] w) ?_ ?_
    · exact ⟨_, 0, i, l.length - 1, x, other, Nat.zero_le _, hiz, hll, hin, hio, fun h => hne h.symm, rfl, HF.sub (by repeat (first | exact ag_nil | refine ag_cons rfl ?_)), HS⟩
    · clear HF HS ac w
      rintro d ac w ⟨k, u, z, x, y, hk, huz, hz, hfx, hfy, hxy, rfl, HF, HS⟩
      refine wp_seq ?_
      refine wp_region_lit ?_
      refine sx_dec HF HS (yl_lss rfl rfl rfl) rfl rfl ?_ ?_ <;> clear HF ac <;> intro h11x0 ac HF
      · obtain ⟨q, hlk⟩ : ∃ q, p[k]? = some q := ⟨_, List.getElem?_eq_getElem (by omega)⟩
        rw [drop_at hlk] at hfx hfy
        have hz0 : z ≠ 0 := by
          rintro rfl
          rw [leadF, if_pos rfl] at hfx; cases hfx
        refine wpList_nil ?_
        refine then_n ?_
        refine wp_seq ?_
        refine cx_true HF rfl ?_
        refine wp_skip ?_
        refine then_n ?_
        refine wp_seq ?_
        refine wp_block ?_
        refine wp_seq ?_
        refine wp_region_lit ?_
        refine sx_y HF HS (ix_sl Tryd.underlying25 sz38 rfl rfl (by omega) HS.row0.nil0) rfl rfl ?_; clear HF ac; intro ac HF
        refine sx_y HF HS (ld_elH ag38 rfl hlk (fun w h => h.row0)) rfl rfl ?_; clear HF ac; intro ac HF
        refine sx_ef HF (ef_alloc HS ze38) rfl rfl ?_; clear HF HS ac; rintro _ w ac ⟨g14, rfl, HS⟩ HF
        refine sx_ef0 HF (ef_store HS sz38 rfl rfl rfl) rfl ?_; clear HS; rintro _ w HS
        refine wpList_nil ?_
        refine then_n ?_
        refine wp_seq ?_
        refine wp_region_lit ?_
        refine sx_y HF HS (yl_move rfl) rfl rfl ?_; clear HF ac; intro ac HF
        refine sx_y HF HS (yl_remN (q := 2) rfl rfl (by decide)) rfl rfl ?_; clear HF ac; intro ac HF
        refine sx_dec HF HS (yl_eql rfl rfl rfl) rfl rfl ?_ ?_ <;> clear HF ac <;> intro h13x2 ac HF
        · rw [leadF, if_neg hz0, if_pos (by omega)] at hfx hfy
          refine sx_y HF HS (yl_move rfl) rfl rfl ?_; clear HF ac; intro ac HF
          refine sx_off HF rfl rfl ?_; clear HF ac; intro ac HF
          refine sx_off HF rfl rfl ?_; clear HF ac; intro ac HF
          refine sx_off HF rfl rfl ?_; clear HF ac; intro ac HF
          refine sx_y HF HS (yl_pick (b := true) rfl rfl) rfl rfl ?_; clear HF ac; intro ac HF
          refine sx_y HF HS (yl_assign rfl) rfl rfl ?_; clear HF ac; intro ac HF
          refine wpList_nil ?_
          refine then_n ?_
          refine wp_seq ?_
          refine wp_block ?_
          replace HF := HF.sub (m' := [(9, _), (10, _), (14, _), (15, _), (67, _), (68, _), (69, _), (11, _), (12, _)]) (by repeat (first | exact ag_nil | refine ag_cons rfl ?_))
          refine cx_loop (m := [(9, _), (10, _), (14, _), (15, _), (67, _), (68, _), (69, _)]) (HF.sub (by repeat (first | exact ag_nil | refine ag_cons rfl ?_))) (fun m d ac w => d = 0 ∧ Fr ([(11, .int .i64 (u : Int)), (12, .int .i64 (z : Int))] ++ m) 124 ac ∧ St [] w0 [⟨g14, sgA [(32, hv q)], 38⟩, ⟨g10, sgA [(32, hv y)], 38⟩, ⟨g9, sgA [(32, hv x)], 38⟩, ⟨g5, sgA [(32, hv other)], 38⟩] [⟨38, 32, a7, p.length, c7, hsc p⟩] w) ?_ ?_
          · exact ⟨_, rfl, HF.sub (by repeat (first | exact ag_nil | refine ag_cons rfl ?_)), HS⟩
          · clear HF HS ac w
            rintro d ac w ⟨rfl, HF, HS⟩
            refine wp_seq ?_
            refine wp_seq ?_
            refine wp_region_lit ?_
            refine sx_y HF HS (yl_move rfl) rfl rfl ?_; clear HF ac; intro ac HF
            refine sx_y HF HS (yl_move rfl) rfl rfl ?_; clear HF ac; intro ac HF
            refine sx_y HF HS (yl_move rfl) rfl rfl ?_; clear HF ac; intro ac HF
            refine sx_y HF HS (yl_remN (q := 2) rfl rfl (by decide)) rfl rfl ?_; clear HF ac; intro ac HF
            refine sx_y HF HS (yl_eql rfl rfl (decide_eq_false (by omega))) rfl rfl ?_; clear HF ac; intro ac HF
            refine sx_y HF HS (yl_pick (b := true) rfl rfl) rfl rfl ?_; clear HF ac; intro ac HF
            refine sx_y HF HS (yl_move rfl) rfl rfl ?_; clear HF ac; intro ac HF
            refine sx_off HF rfl rfl ?_; clear HF ac; intro ac HF
            refine sx_off HF rfl rfl ?_; clear HF ac; intro ac HF
            refine sx_y HF HS (yl_pick (b := false) rfl rfl) rfl rfl ?_; clear HF ac; intro ac HF
            refine wpList_nil ?_
            refine then_n ?_
            refine cx_false HF rfl ?_
            refine wp_exit ?_
            refine then_x ?_
            refine then_x ?_
            refine blk_hit ?_
            refine then_n ?_
            refine wp_seq ?_
            replace HF := HF.sub (m' := [(9, _), (10, _), (11, _), (12, _), (14, _), (15, _), (67, _), (68, _), (69, _)]) (by repeat (first | exact ag_nil | refine ag_cons rfl ?_))
            refine dx_join HF HS (fun m L R ac w => ∃ g16 g17, Fr ([(16, .pointer (some ⟨g16, 0, none⟩)), (17, .pointer (some ⟨g17, 0, none⟩))] ++ m) 124 ac ∧ St [] w0 (⟨g17, sgA [(32, hv (nodeH y q))], 38⟩ :: ⟨g16, sgA [(32, hv (nodeH x q))], 38⟩ :: L) R w) ?_ ?_
            · clear HF HS ac w
              rintro ac w ⟨g16, g17, HF, HS⟩
              refine then_n ?_
              refine wp_seq ?_
              refine wp_seq ?_
              refine wp_region_lit ?_
              refine sx_y HF HS (yl_move rfl) rfl rfl ?_; clear HF ac; intro ac HF
              refine wpList_nil ?_
              refine then_n ?_
              refine cx_true HF rfl ?_
              refine dx_region 8 (by kernel_rfl) HS.drew (fun _ h => h.sub (List.Sublist.cons _ (List.Sublist.cons _ (List.Sublist.refl _))) (List.Sublist.refl _)) ?_; clear HS; intro w HS
              have HH := HS.sub (List.Sublist.cons _ (List.Sublist.cons _ (List.Sublist.refl _))) (List.Sublist.refl _)
              refine dx_k (i := 0) HF rfl (by kernel_rfl) (by kernel_rfl) (by kernel_rfl) (by kernel_rfl) (by kernel_rfl) (fun _ _ _ h => h) HH (ld_ag ag38 rfl rfl) rfl rfl ?_; clear HF ac; intro ac HF
              refine dx_k (i := 1) HF rfl (by kernel_rfl) (by kernel_rfl) (by kernel_rfl) (by kernel_rfl) (by kernel_rfl) (fun _ _ _ h => h) HH (ld_ag ag38 rfl rfl) rfl rfl ?_; clear HF ac; intro ac HF
              refine dx_k (i := 3) HF rfl (by kernel_rfl) (by kernel_rfl) (by kernel_rfl) (by kernel_rfl) (by kernel_rfl) (fun _ _ _ h => h) HH (ld_ag ag38 rfl rfl) rfl rfl ?_; clear HF ac; intro ac HF
              refine dx_k (i := 4) HF rfl (by kernel_rfl) (by kernel_rfl) (by kernel_rfl) (by kernel_rfl) (by kernel_rfl) (fun _ _ _ h => h) HH (ld_ag ag38 rfl rfl) rfl rfl ?_; clear HF ac; intro ac HF
              refine dx_one (i := 2) (by kernel_rfl) ?_
              refine op_call (i := 2) HF rfl Tryd.func34 (by kernel_rfl) (by kernel_rfl) rfl (node_any q x w (hL.below HS.kp) (Nat.le_trans h2 HS.kp.size)) rfl rfl ?_; clear HF ac
              rintro _ w ⟨rfl, k1⟩
              refine ⟨_, rfl, fun ac HF => ?_⟩
              replace HH := HH.call k1
              replace HS := HS.call k1
              clear k1
              refine ⟨fun _ => HH, ?_⟩
              refine dx_one (i := 5) (by kernel_rfl) ?_
              refine op_call (i := 5) HF rfl Tryd.func34 (by kernel_rfl) (by kernel_rfl) rfl (node_any q y w (hL.below HS.kp) (Nat.le_trans h2 HS.kp.size)) rfl rfl ?_; clear HF ac
              rintro _ w ⟨rfl, k1⟩
              refine ⟨_, rfl, fun ac HF => ?_⟩
              replace HH := HH.call k1
              replace HS := HS.call k1
              clear k1
              refine ⟨fun _ => HH, ?_⟩
              refine dx_one (i := 6) (by kernel_rfl) ?_
              refine op_ef0 (i := 6) HF rfl rfl (ef_store HS sz38 rfl rfl rfl) ?_; clear HS; rintro _ w HS
              replace HH := HS.sub (List.Sublist.cons _ (List.Sublist.cons _ (List.Sublist.refl _))) (List.Sublist.refl _)
              refine ⟨fun _ => HH, ?_⟩
              refine dx_one (i := 7) (by kernel_rfl) ?_
              refine op_ef0 (i := 7) HF rfl rfl (ef_store HS sz38 rfl rfl rfl) ?_; clear HS; rintro _ w HS
              replace HH := HS.sub (List.Sublist.cons _ (List.Sublist.cons _ (List.Sublist.refl _))) (List.Sublist.refl _)
              refine ⟨fun _ => HH, ?_⟩
              refine dx_done (by kernel_rfl) ?_
              clear HH
              refine then_n ?_
              refine wp_seq ?_
              refine wp_seq ?_
              refine wp_region_lit ?_
              refine sx_y HF HS (ld_ag ag38 rfl rfl) rfl rfl ?_; clear HF ac; intro ac HF
              refine sx_y HF HS (ld_ag ag38 rfl rfl) rfl rfl ?_; clear HF ac; intro ac HF
              refine sx_dec HF HS (Tryd.yl_eqH rfl rfl rfl) rfl rfl ?_ ?_ <;> clear HF ac <;> intro h19x2 ac HF
              · refine wpList_nil ?_
                refine then_n ?_
                refine cx_true HF rfl ?_
                refine wp_seq ?_
                refine wp_region_lit ?_
                refine sx_y HF HS (ld_ag ag38 rfl rfl) rfl rfl ?_; clear HF ac; intro ac HF
                refine sx_y HF HS (ld_ag ag38 rfl rfl) rfl rfl ?_; clear HF ac; intro ac HF
                refine sx_y HF HS (Tryd.yl_neH rfl rfl (decide_eq_true (by exact hxy))) rfl rfl ?_; clear HF ac; intro ac HF
                refine sx_y HF HS (yl_move rfl) rfl rfl ?_; clear HF ac; intro ac HF
                refine sx_call HF Tryd.func28 (by kernel_rfl) (by kernel_rfl) rfl (awake8_any w (hL.below HS.kp) (Nat.le_trans h2 HS.kp.size)) rfl rfl ?_; clear HF ac
                rintro _ w ⟨rfl, k1⟩
                refine ⟨_, rfl, fun ac HF => ?_⟩
                replace HS := HS.call k1
                clear k1
                refine sx_y HF HS (yl_pick (b := true) rfl rfl) rfl rfl ?_; clear HF ac; intro ac HF
                refine sx_y HF HS (yl_assign rfl) rfl rfl ?_; clear HF ac; intro ac HF
                refine wpList_nil ?_
                refine then_n ?_
                refine wp_ret ?_
                refine then_r ?_
                refine blk_r ?_
                refine then_r ?_
                refine then_r ?_
                refine blk_r ?_
                refine then_r ?_
                exact rt1 rfl HF HS rfl ⟨rfl, HS.kp⟩
              · refine wpList_nil ?_
                refine then_n ?_
                refine cx_false HF rfl ?_
                refine wp_skip ?_
                refine then_n ?_
                refine wp_seq ?_
                refine dx_region 4 (by kernel_rfl) HS.drew (fun _ h => h.sub (List.Sublist.cons_cons _ (List.Sublist.cons_cons _ (List.Sublist.cons_cons _ (List.Sublist.cons _ (List.Sublist.cons _ (List.Sublist.cons_cons _ List.Sublist.slnil)))))) (List.Sublist.refl _)) ?_; clear HS; intro w HS
                have HH := HS.sub (List.Sublist.cons_cons _ (List.Sublist.cons_cons _ (List.Sublist.cons_cons _ (List.Sublist.cons _ (List.Sublist.cons _ (List.Sublist.cons_cons _ List.Sublist.slnil)))))) (List.Sublist.refl _)
                refine dx_k (i := 0) HF rfl (by kernel_rfl) (by kernel_rfl) (by kernel_rfl) (by kernel_rfl) (by kernel_rfl) (fun _ _ _ h => h) HH (ld_ag ag38 rfl rfl) rfl rfl ?_; clear HF ac; intro ac HF
                refine dx_k (i := 1) HF rfl (by kernel_rfl) (by kernel_rfl) (by kernel_rfl) (by kernel_rfl) (by kernel_rfl) (fun _ _ _ h => h) HH (ld_ag ag38 rfl rfl) rfl rfl ?_; clear HF ac; intro ac HF
                refine dx_one (i := 2) (by kernel_rfl) ?_
                refine op_ef0 (i := 2) HF rfl rfl (ef_store HS sz38 rfl rfl rfl) ?_; clear HS; rintro _ w HS
                replace HH := HS.sub (List.Sublist.cons_cons _ (List.Sublist.cons_cons _ (List.Sublist.cons_cons _ (List.Sublist.cons _ (List.Sublist.cons _ (List.Sublist.cons_cons _ List.Sublist.slnil)))))) (List.Sublist.refl _)
                refine ⟨fun _ => HH, ?_⟩
                refine dx_one (i := 3) (by kernel_rfl) ?_
                refine op_ef0 (i := 3) HF rfl rfl (ef_store HS sz38 rfl rfl rfl) ?_; clear HS; rintro _ w HS
                replace HH := HS.sub (List.Sublist.cons_cons _ (List.Sublist.cons_cons _ (List.Sublist.cons_cons _ (List.Sublist.cons _ (List.Sublist.cons _ (List.Sublist.cons_cons _ List.Sublist.slnil)))))) (List.Sublist.refl _)
                refine ⟨fun _ => HH, ?_⟩
                refine dx_done (by kernel_rfl) ?_
                clear HH
                refine then_n ?_
                refine wp_region_lit ?_
                refine sx_y HF HS (yl_move rfl) rfl rfl ?_; clear HF ac; intro ac HF
                refine sx_y HF HS (yl_quoN (q := 2) rfl rfl (by decide) (by omega)) rfl rfl ?_; clear HF ac; intro ac HF
                refine sx_y HF HS (yl_move rfl) rfl rfl ?_; clear HF ac; intro ac HF
                refine sx_y HF HS (yl_quoN (q := 2) rfl rfl (by decide) (by omega)) rfl rfl ?_; clear HF ac; intro ac HF
                refine sx_y HF HS (yl_assign rfl) rfl rfl ?_; clear HF ac; intro ac HF
                refine sx_y HF HS (yl_assign rfl) rfl rfl ?_; clear HF ac; intro ac HF
                refine wpList_nil ?_
                refine blk_n ?_
                refine then_n ?_
                refine wp_region_lit ?_
                have hmx := HS.row0.lim
                refine sx_y HF HS (yl_add64 (r := ((k + 1 : Nat) : Int)) rfl rfl (by omega) (by omega)) rfl rfl ?_; clear HF ac; intro ac HF
                refine sx_y HF HS (yl_move rfl) rfl rfl ?_; clear HF ac; intro ac HF
                refine wpList_nil ?_
                refine then_n ?_
                refine ⟨_, ?_, k + 1, u / 2, z / 2, (nodeH q x), (nodeH q y), by omega, by omega, by omega, ?_, ?_, h19x2, rfl, HF.sub (by repeat (first | exact ag_nil | refine ag_cons rfl ?_)), HS.sub (List.Sublist.cons _ (List.Sublist.cons _ (List.Sublist.cons _ (List.Sublist.refl _)))) (List.Sublist.refl _)⟩
                · omega
                · rw [← hfx]
                · rw [← hfy]
            · intro J
              refine dx_region 10 (by kernel_rfl) HS.drew (fun _ h => h) ?_; clear HS; intro w HS
              have HH := HS
              refine dx_k (i := 0) HF rfl (by kernel_rfl) (by kernel_rfl) (by kernel_rfl) (by kernel_rfl) (by kernel_rfl) (fun _ _ _ h => h) HH (ld_ag ag38 rfl rfl) rfl rfl ?_; clear HF ac; intro ac HF
              refine dx_k (i := 1) HF rfl (by kernel_rfl) (by kernel_rfl) (by kernel_rfl) (by kernel_rfl) (by kernel_rfl) (fun _ _ _ h => h) HH (ld_ag ag38 rfl rfl) rfl rfl ?_; clear HF ac; intro ac HF
              refine dx_k (i := 3) HF rfl (by kernel_rfl) (by kernel_rfl) (by kernel_rfl) (by kernel_rfl) (by kernel_rfl) (fun _ _ _ h => h) HH (ld_ag ag38 rfl rfl) rfl rfl ?_; clear HF ac; intro ac HF
              refine dx_k (i := 4) HF rfl (by kernel_rfl) (by kernel_rfl) (by kernel_rfl) (by kernel_rfl) (by kernel_rfl) (fun _ _ _ h => h) HH (ld_ag ag38 rfl rfl) rfl rfl ?_; clear HF ac; intro ac HF
              refine dx_three (i := 2) (j := 6) (j2 := 7) (by kernel_rfl) ?_ ?_ ?_
              · refine op_call (i := 2) HF rfl Tryd.func34 (by kernel_rfl) (by kernel_rfl) rfl (node_any x q w (hL.below HS.kp) (Nat.le_trans h2 HS.kp.size)) rfl rfl ?_; clear HF ac
                rintro _ w ⟨rfl, k1⟩
                refine ⟨_, rfl, fun ac HF => ?_⟩
                replace HH := HH.call k1
                replace HS := HS.call k1
                clear k1
                refine ⟨fun _ => HH, ?_⟩
                refine dx_three (i := 5) (j := 6) (j2 := 7) (by kernel_rfl) ?_ ?_ ?_
                · refine op_call (i := 5) HF rfl Tryd.func34 (by kernel_rfl) (by kernel_rfl) rfl (node_any y q w (hL.below HS.kp) (Nat.le_trans h2 HS.kp.size)) rfl rfl ?_; clear HF ac
                  rintro _ w ⟨rfl, k1⟩
                  refine ⟨_, rfl, fun ac HF => ?_⟩
                  replace HH := HH.call k1
                  replace HS := HS.call k1
                  clear k1
                  refine ⟨fun _ => HH, ?_⟩
                  refine dx_two (i := 6) (j := 7) (by kernel_rfl) ?_ ?_
                  · refine op_ef (i := 6) HF rfl rfl rfl (ef_alloc HS ze38) ?_; clear HF HS ac; rintro _ w ac ⟨g16, rfl, HS⟩ HF
                    replace HH := HS.sub (List.Sublist.cons _ (List.Sublist.refl _)) (List.Sublist.refl _)
                    refine ⟨fun _ => HH, ?_⟩
                    refine dx_one (i := 7) (by kernel_rfl) ?_
                    refine op_ef (i := 7) HF rfl rfl rfl (ef_alloc HS ze38) ?_; clear HF HS ac; rintro _ w ac ⟨g17, rfl, HS⟩ HF
                    replace HH := HS.sub (List.Sublist.cons _ (List.Sublist.cons _ (List.Sublist.refl _))) (List.Sublist.refl _)
                    refine ⟨fun _ => HH, ?_⟩
                    refine dx_one (i := 8) (by kernel_rfl) ?_
                    refine op_ef0 (i := 8) HF rfl rfl (ef_store HS sz38 rfl rfl rfl) ?_; clear HS; rintro _ w HS
                    replace HH := HS.sub (List.Sublist.cons _ (List.Sublist.cons _ (List.Sublist.refl _))) (List.Sublist.refl _)
                    refine ⟨fun _ => HH, ?_⟩
                    refine dx_one (i := 9) (by kernel_rfl) ?_
                    refine op_ef0 (i := 9) HF rfl rfl (ef_store HS sz38 rfl rfl rfl) ?_; clear HS; rintro _ w HS
                    replace HH := HS.sub (List.Sublist.cons _ (List.Sublist.cons _ (List.Sublist.refl _))) (List.Sublist.refl _)
                    refine ⟨fun _ => HH, ?_⟩
                    refine dx_done (by kernel_rfl) ?_
                    clear HH
                    exact J _ _ ⟨_, _, HF.sub (by repeat (first | exact ag_nil | refine ag_cons rfl ?_)), by first | exact HS | exact HS.swap | exact HS.rot | exact HS.rot.rot | exact HS.swap.rot | exact HS.rot.swap⟩
                  · refine op_ef (i := 7) HF rfl rfl rfl (ef_alloc HS ze38) ?_; clear HF HS ac; rintro _ w ac ⟨g17, rfl, HS⟩ HF
                    replace HH := HS.sub (List.Sublist.cons _ (List.Sublist.refl _)) (List.Sublist.refl _)
                    refine ⟨fun _ => HH, ?_⟩
                    refine dx_one (i := 6) (by kernel_rfl) ?_
                    refine op_ef (i := 6) HF rfl rfl rfl (ef_alloc HS ze38) ?_; clear HF HS ac; rintro _ w ac ⟨g16, rfl, HS⟩ HF
                    replace HH := HS.sub (List.Sublist.cons _ (List.Sublist.cons _ (List.Sublist.refl _))) (List.Sublist.refl _)
                    refine ⟨fun _ => HH, ?_⟩
                    refine dx_one (i := 8) (by kernel_rfl) ?_
                    refine op_ef0 (i := 8) HF rfl rfl (ef_store HS sz38 rfl rfl rfl) ?_; clear HS; rintro _ w HS
                    replace HH := HS.sub (List.Sublist.cons _ (List.Sublist.cons _ (List.Sublist.refl _))) (List.Sublist.refl _)
                    refine ⟨fun _ => HH, ?_⟩
                    refine dx_one (i := 9) (by kernel_rfl) ?_
                    refine op_ef0 (i := 9) HF rfl rfl (ef_store HS sz38 rfl rfl rfl) ?_; clear HS; rintro _ w HS
                    replace HH := HS.sub (List.Sublist.cons _ (List.Sublist.cons _ (List.Sublist.refl _))) (List.Sublist.refl _)
                    refine ⟨fun _ => HH, ?_⟩
                    refine dx_done (by kernel_rfl) ?_
                    clear HH
                    exact J _ _ ⟨_, _, HF.sub (by repeat (first | exact ag_nil | refine ag_cons rfl ?_)), by first | exact HS | exact HS.swap | exact HS.rot | exact HS.rot.rot | exact HS.swap.rot | exact HS.rot.swap⟩
                · refine op_ef (i := 6) HF rfl rfl rfl (ef_alloc HS ze38) ?_; clear HF HS ac; rintro _ w ac ⟨g16, rfl, HS⟩ HF
                  replace HH := HS.sub (List.Sublist.cons _ (List.Sublist.refl _)) (List.Sublist.refl _)
                  refine ⟨fun _ => HH, ?_⟩
                  refine dx_two (i := 5) (j := 7) (by kernel_rfl) ?_ ?_
                  · refine op_call (i := 5) HF rfl Tryd.func34 (by kernel_rfl) (by kernel_rfl) rfl (node_any y q w (hL.below HS.kp) (Nat.le_trans h2 HS.kp.size)) rfl rfl ?_; clear HF ac
                    rintro _ w ⟨rfl, k1⟩
                    refine ⟨_, rfl, fun ac HF => ?_⟩
                    replace HH := HH.call k1
                    replace HS := HS.call k1
                    clear k1
                    refine ⟨fun _ => HH, ?_⟩
                    refine dx_one (i := 7) (by kernel_rfl) ?_
                    refine op_ef (i := 7) HF rfl rfl rfl (ef_alloc HS ze38) ?_; clear HF HS ac; rintro _ w ac ⟨g17, rfl, HS⟩ HF
                    replace HH := HS.sub (List.Sublist.cons _ (List.Sublist.cons _ (List.Sublist.refl _))) (List.Sublist.refl _)
                    refine ⟨fun _ => HH, ?_⟩
                    refine dx_one (i := 8) (by kernel_rfl) ?_
                    refine op_ef0 (i := 8) HF rfl rfl (ef_store HS sz38 rfl rfl rfl) ?_; clear HS; rintro _ w HS
                    replace HH := HS.sub (List.Sublist.cons _ (List.Sublist.cons _ (List.Sublist.refl _))) (List.Sublist.refl _)
                    refine ⟨fun _ => HH, ?_⟩
                    refine dx_one (i := 9) (by kernel_rfl) ?_
                    refine op_ef0 (i := 9) HF rfl rfl (ef_store HS sz38 rfl rfl rfl) ?_; clear HS; rintro _ w HS
                    replace HH := HS.sub (List.Sublist.cons _ (List.Sublist.cons _ (List.Sublist.refl _))) (List.Sublist.refl _)
                    refine ⟨fun _ => HH, ?_⟩
                    refine dx_done (by kernel_rfl) ?_
                    clear HH
                    exact J _ _ ⟨_, _, HF.sub (by repeat (first | exact ag_nil | refine ag_cons rfl ?_)), by first | exact HS | exact HS.swap | exact HS.rot | exact HS.rot.rot | exact HS.swap.rot | exact HS.rot.swap⟩
                  · refine op_ef (i := 7) HF rfl rfl rfl (ef_alloc HS ze38) ?_; clear HF HS ac; rintro _ w ac ⟨g17, rfl, HS⟩ HF
                    replace HH := HS.sub (List.Sublist.cons _ (List.Sublist.cons _ (List.Sublist.refl _))) (List.Sublist.refl _)
                    refine ⟨fun _ => HH, ?_⟩
                    refine dx_one (i := 5) (by kernel_rfl) ?_
                    refine op_call (i := 5) HF rfl Tryd.func34 (by kernel_rfl) (by kernel_rfl) rfl (node_any y q w (hL.below HS.kp) (Nat.le_trans h2 HS.kp.size)) rfl rfl ?_; clear HF ac
                    rintro _ w ⟨rfl, k1⟩
                    refine ⟨_, rfl, fun ac HF => ?_⟩
                    replace HH := HH.call k1
                    replace HS := HS.call k1
                    clear k1
                    refine ⟨fun _ => HH, ?_⟩
                    refine dx_one (i := 8) (by kernel_rfl) ?_
                    refine op_ef0 (i := 8) HF rfl rfl (ef_store HS sz38 rfl rfl rfl) ?_; clear HS; rintro _ w HS
                    replace HH := HS.sub (List.Sublist.cons _ (List.Sublist.cons _ (List.Sublist.refl _))) (List.Sublist.refl _)
                    refine ⟨fun _ => HH, ?_⟩
                    refine dx_one (i := 9) (by kernel_rfl) ?_
                    refine op_ef0 (i := 9) HF rfl rfl (ef_store HS sz38 rfl rfl rfl) ?_; clear HS; rintro _ w HS
                    replace HH := HS.sub (List.Sublist.cons _ (List.Sublist.cons _ (List.Sublist.refl _))) (List.Sublist.refl _)
                    refine ⟨fun _ => HH, ?_⟩
                    refine dx_done (by kernel_rfl) ?_
                    clear HH
                    exact J _ _ ⟨_, _, HF.sub (by repeat (first | exact ag_nil | refine ag_cons rfl ?_)), by first | exact HS | exact HS.swap | exact HS.rot | exact HS.rot.rot | exact HS.swap.rot | exact HS.rot.swap⟩
                · refine op_ef (i := 7) HF rfl rfl rfl (ef_alloc HS ze38) ?_; clear HF HS ac; rintro _ w ac ⟨g17, rfl, HS⟩ HF
                  replace HH := HS.sub (List.Sublist.cons _ (List.Sublist.refl _)) (List.Sublist.refl _)
                  refine ⟨fun _ => HH, ?_⟩
                  refine dx_two (i := 5) (j := 6) (by kernel_rfl) ?_ ?_
                  · refine op_call (i := 5) HF rfl Tryd.func34 (by kernel_rfl) (by kernel_rfl) rfl (node_any y q w (hL.below HS.kp) (Nat.le_trans h2 HS.kp.size)) rfl rfl ?_; clear HF ac
                    rintro _ w ⟨rfl, k1⟩
                    refine ⟨_, rfl, fun ac HF => ?_⟩
                    replace HH := HH.call k1
                    replace HS := HS.call k1
                    clear k1
                    refine ⟨fun _ => HH, ?_⟩
                    refine dx_one (i := 6) (by kernel_rfl) ?_
                    refine op_ef (i := 6) HF rfl rfl rfl (ef_alloc HS ze38) ?_; clear HF HS ac; rintro _ w ac ⟨g16, rfl, HS⟩ HF
                    replace HH := HS.sub (List.Sublist.cons _ (List.Sublist.cons _ (List.Sublist.refl _))) (List.Sublist.refl _)
                    refine ⟨fun _ => HH, ?_⟩
                    refine dx_one (i := 8) (by kernel_rfl) ?_
                    refine op_ef0 (i := 8) HF rfl rfl (ef_store HS sz38 rfl rfl rfl) ?_; clear HS; rintro _ w HS
                    replace HH := HS.sub (List.Sublist.cons _ (List.Sublist.cons _ (List.Sublist.refl _))) (List.Sublist.refl _)
                    refine ⟨fun _ => HH, ?_⟩
                    refine dx_one (i := 9) (by kernel_rfl) ?_
                    refine op_ef0 (i := 9) HF rfl rfl (ef_store HS sz38 rfl rfl rfl) ?_; clear HS; rintro _ w HS
                    replace HH := HS.sub (List.Sublist.cons _ (List.Sublist.cons _ (List.Sublist.refl _))) (List.Sublist.refl _)
                    refine ⟨fun _ => HH, ?_⟩
                    refine dx_done (by kernel_rfl) ?_
                    clear HH
                    exact J _ _ ⟨_, _, HF.sub (by repeat (first | exact ag_nil | refine ag_cons rfl ?_)), by first | exact HS | exact HS.swap | exact HS.rot | exact HS.rot.rot | exact HS.swap.rot | exact HS.rot.swap⟩
                  · refine op_ef (i := 6) HF rfl rfl rfl (ef_alloc HS ze38) ?_; clear HF HS ac; rintro _ w ac ⟨g16, rfl, HS⟩ HF
                    replace HH := HS.sub (List.Sublist.cons _ (List.Sublist.cons _ (List.Sublist.refl _))) (List.Sublist.refl _)
                    refine ⟨fun _ => HH, ?_⟩
                    refine dx_one (i := 5) (by kernel_rfl) ?_
                    refine op_call (i := 5) HF rfl Tryd.func34 (by kernel_rfl) (by kernel_rfl) rfl (node_any y q w (hL.below HS.kp) (Nat.le_trans h2 HS.kp.size)) rfl rfl ?_; clear HF ac
                    rintro _ w ⟨rfl, k1⟩
                    refine ⟨_, rfl, fun ac HF => ?_⟩
                    replace HH := HH.call k1
                    replace HS := HS.call k1
                    clear k1
                    refine ⟨fun _ => HH, ?_⟩
                    refine dx_one (i := 8) (by kernel_rfl) ?_
                    refine op_ef0 (i := 8) HF rfl rfl (ef_store HS sz38 rfl rfl rfl) ?_; clear HS; rintro _ w HS
                    replace HH := HS.sub (List.Sublist.cons _ (List.Sublist.cons _ (List.Sublist.refl _))) (List.Sublist.refl _)
                    refine ⟨fun _ => HH, ?_⟩
                    refine dx_one (i := 9) (by kernel_rfl) ?_
                    refine op_ef0 (i := 9) HF rfl rfl (ef_store HS sz38 rfl rfl rfl) ?_; clear HS; rintro _ w HS
                    replace HH := HS.sub (List.Sublist.cons _ (List.Sublist.cons _ (List.Sublist.refl _))) (List.Sublist.refl _)
                    refine ⟨fun _ => HH, ?_⟩
                    refine dx_done (by kernel_rfl) ?_
                    clear HH
                    exact J _ _ ⟨_, _, HF.sub (by repeat (first | exact ag_nil | refine ag_cons rfl ?_)), by first | exact HS | exact HS.swap | exact HS.rot | exact HS.rot.rot | exact HS.swap.rot | exact HS.rot.swap⟩
              · refine op_ef (i := 6) HF rfl rfl rfl (ef_alloc HS ze38) ?_; clear HF HS ac; rintro _ w ac ⟨g16, rfl, HS⟩ HF
                replace HH := HS.sub (List.Sublist.cons _ (List.Sublist.refl _)) (List.Sublist.refl _)
                refine ⟨fun _ => HH, ?_⟩
                refine dx_two (i := 2) (j := 7) (by kernel_rfl) ?_ ?_
                · refine op_call (i := 2) HF rfl Tryd.func34 (by kernel_rfl) (by kernel_rfl) rfl (node_any x q w (hL.below HS.kp) (Nat.le_trans h2 HS.kp.size)) rfl rfl ?_; clear HF ac
                  rintro _ w ⟨rfl, k1⟩
                  refine ⟨_, rfl, fun ac HF => ?_⟩
                  replace HH := HH.call k1
                  replace HS := HS.call k1
                  clear k1
                  refine ⟨fun _ => HH, ?_⟩
                  refine dx_two (i := 5) (j := 7) (by kernel_rfl) ?_ ?_
                  · refine op_call (i := 5) HF rfl Tryd.func34 (by kernel_rfl) (by kernel_rfl) rfl (node_any y q w (hL.below HS.kp) (Nat.le_trans h2 HS.kp.size)) rfl rfl ?_; clear HF ac
                    rintro _ w ⟨rfl, k1⟩
                    refine ⟨_, rfl, fun ac HF => ?_⟩
                    replace HH := HH.call k1
                    replace HS := HS.call k1
                    clear k1
                    refine ⟨fun _ => HH, ?_⟩
                    refine dx_one (i := 7) (by kernel_rfl) ?_
                    refine op_ef (i := 7) HF rfl rfl rfl (ef_alloc HS ze38) ?_; clear HF HS ac; rintro _ w ac ⟨g17, rfl, HS⟩ HF
                    replace HH := HS.sub (List.Sublist.cons _ (List.Sublist.cons _ (List.Sublist.refl _))) (List.Sublist.refl _)
                    refine ⟨fun _ => HH, ?_⟩
                    refine dx_one (i := 8) (by kernel_rfl) ?_
                    refine op_ef0 (i := 8) HF rfl rfl (ef_store HS sz38 rfl rfl rfl) ?_; clear HS; rintro _ w HS
                    replace HH := HS.sub (List.Sublist.cons _ (List.Sublist.cons _ (List.Sublist.refl _))) (List.Sublist.refl _)
                    refine ⟨fun _ => HH, ?_⟩
                    refine dx_one (i := 9) (by kernel_rfl) ?_
                    refine op_ef0 (i := 9) HF rfl rfl (ef_store HS sz38 rfl rfl rfl) ?_; clear HS; rintro _ w HS
                    replace HH := HS.sub (List.Sublist.cons _ (List.Sublist.cons _ (List.Sublist.refl _))) (List.Sublist.refl _)
                    refine ⟨fun _ => HH, ?_⟩
                    refine dx_done (by kernel_rfl) ?_
                    clear HH
                    exact J _ _ ⟨_, _, HF.sub (by repeat (first | exact ag_nil | refine ag_cons rfl ?_)), by first | exact HS | exact HS.swap | exact HS.rot | exact HS.rot.rot | exact HS.swap.rot | exact HS.rot.swap⟩
                  · refine op_ef (i := 7) HF rfl rfl rfl (ef_alloc HS ze38) ?_; clear HF HS ac; rintro _ w ac ⟨g17, rfl, HS⟩ HF
                    replace HH := HS.sub (List.Sublist.cons _ (List.Sublist.cons _ (List.Sublist.refl _))) (List.Sublist.refl _)
                    refine ⟨fun _ => HH, ?_⟩
                    refine dx_one (i := 5) (by kernel_rfl) ?_
                    refine op_call (i := 5) HF rfl Tryd.func34 (by kernel_rfl) (by kernel_rfl) rfl (node_any y q w (hL.below HS.kp) (Nat.le_trans h2 HS.kp.size)) rfl rfl ?_; clear HF ac
                    rintro _ w ⟨rfl, k1⟩
                    refine ⟨_, rfl, fun ac HF => ?_⟩
                    replace HH := HH.call k1
                    replace HS := HS.call k1
                    clear k1
                    refine ⟨fun _ => HH, ?_⟩
                    refine dx_one (i := 8) (by kernel_rfl) ?_
                    refine op_ef0 (i := 8) HF rfl rfl (ef_store HS sz38 rfl rfl rfl) ?_; clear HS; rintro _ w HS
                    replace HH := HS.sub (List.Sublist.cons _ (List.Sublist.cons _ (List.Sublist.refl _))) (List.Sublist.refl _)
                    refine ⟨fun _ => HH, ?_⟩
                    refine dx_one (i := 9) (by kernel_rfl) ?_
                    refine op_ef0 (i := 9) HF rfl rfl (ef_store HS sz38 rfl rfl rfl) ?_; clear HS; rintro _ w HS
                    replace HH := HS.sub (List.Sublist.cons _ (List.Sublist.cons _ (List.Sublist.refl _))) (List.Sublist.refl _)
                    refine ⟨fun _ => HH, ?_⟩
                    refine dx_done (by kernel_rfl) ?_
                    clear HH
                    exact J _ _ ⟨_, _, HF.sub (by repeat (first | exact ag_nil | refine ag_cons rfl ?_)), by first | exact HS | exact HS.swap | exact HS.rot | exact HS.rot.rot | exact HS.swap.rot | exact HS.rot.swap⟩
                · refine op_ef (i := 7) HF rfl rfl rfl (ef_alloc HS ze38) ?_; clear HF HS ac; rintro _ w ac ⟨g17, rfl, HS⟩ HF
                  replace HH := HS.sub (List.Sublist.cons _ (List.Sublist.cons _ (List.Sublist.refl _))) (List.Sublist.refl _)
                  refine ⟨fun _ => HH, ?_⟩
                  refine dx_one (i := 2) (by kernel_rfl) ?_
                  refine op_call (i := 2) HF rfl Tryd.func34 (by kernel_rfl) (by kernel_rfl) rfl (node_any x q w (hL.below HS.kp) (Nat.le_trans h2 HS.kp.size)) rfl rfl ?_; clear HF ac
                  rintro _ w ⟨rfl, k1⟩
                  refine ⟨_, rfl, fun ac HF => ?_⟩
                  replace HH := HH.call k1
                  replace HS := HS.call k1
                  clear k1
                  refine ⟨fun _ => HH, ?_⟩
                  refine dx_one (i := 5) (by kernel_rfl) ?_
                  refine op_call (i := 5) HF rfl Tryd.func34 (by kernel_rfl) (by kernel_rfl) rfl (node_any y q w (hL.below HS.kp) (Nat.le_trans h2 HS.kp.size)) rfl rfl ?_; clear HF ac
                  rintro _ w ⟨rfl, k1⟩
                  refine ⟨_, rfl, fun ac HF => ?_⟩
                  replace HH := HH.call k1
                  replace HS := HS.call k1
                  clear k1
                  refine ⟨fun _ => HH, ?_⟩
                  refine dx_one (i := 8) (by kernel_rfl) ?_
                  refine op_ef0 (i := 8) HF rfl rfl (ef_store HS sz38 rfl rfl rfl) ?_; clear HS; rintro _ w HS
                  replace HH := HS.sub (List.Sublist.cons _ (List.Sublist.cons _ (List.Sublist.refl _))) (List.Sublist.refl _)
                  refine ⟨fun _ => HH, ?_⟩
                  refine dx_one (i := 9) (by kernel_rfl) ?_
                  refine op_ef0 (i := 9) HF rfl rfl (ef_store HS sz38 rfl rfl rfl) ?_; clear HS; rintro _ w HS
                  replace HH := HS.sub (List.Sublist.cons _ (List.Sublist.cons _ (List.Sublist.refl _))) (List.Sublist.refl _)
                  refine ⟨fun _ => HH, ?_⟩
                  refine dx_done (by kernel_rfl) ?_
                  clear HH
                  exact J _ _ ⟨_, _, HF.sub (by repeat (first | exact ag_nil | refine ag_cons rfl ?_)), by first | exact HS | exact HS.swap | exact HS.rot | exact HS.rot.rot | exact HS.swap.rot | exact HS.rot.swap⟩
              · refine op_ef (i := 7) HF rfl rfl rfl (ef_alloc HS ze38) ?_; clear HF HS ac; rintro _ w ac ⟨g17, rfl, HS⟩ HF
                replace HH := HS.sub (List.Sublist.cons _ (List.Sublist.refl _)) (List.Sublist.refl _)
                refine ⟨fun _ => HH, ?_⟩
                refine dx_two (i := 2) (j := 6) (by kernel_rfl) ?_ ?_
                · refine op_call (i := 2) HF rfl Tryd.func34 (by kernel_rfl) (by kernel_rfl) rfl (node_any x q w (hL.below HS.kp) (Nat.le_trans h2 HS.kp.size)) rfl rfl ?_; clear HF ac
                  rintro _ w ⟨rfl, k1⟩
                  refine ⟨_, rfl, fun ac HF => ?_⟩
                  replace HH := HH.call k1
                  replace HS := HS.call k1
                  clear k1
                  refine ⟨fun _ => HH, ?_⟩
                  refine dx_two (i := 5) (j := 6) (by kernel_rfl) ?_ ?_
                  · refine op_call (i := 5) HF rfl Tryd.func34 (by kernel_rfl) (by kernel_rfl) rfl (node_any y q w (hL.below HS.kp) (Nat.le_trans h2 HS.kp.size)) rfl rfl ?_; clear HF ac
                    rintro _ w ⟨rfl, k1⟩
                    refine ⟨_, rfl, fun ac HF => ?_⟩
                    replace HH := HH.call k1
                    replace HS := HS.call k1
                    clear k1
                    refine ⟨fun _ => HH, ?_⟩
                    refine dx_one (i := 6) (by kernel_rfl) ?_
                    refine op_ef (i := 6) HF rfl rfl rfl (ef_alloc HS ze38) ?_; clear HF HS ac; rintro _ w ac ⟨g16, rfl, HS⟩ HF
                    replace HH := HS.sub (List.Sublist.cons _ (List.Sublist.cons _ (List.Sublist.refl _))) (List.Sublist.refl _)
                    refine ⟨fun _ => HH, ?_⟩
                    refine dx_one (i := 8) (by kernel_rfl) ?_
                    refine op_ef0 (i := 8) HF rfl rfl (ef_store HS sz38 rfl rfl rfl) ?_; clear HS; rintro _ w HS
                    replace HH := HS.sub (List.Sublist.cons _ (List.Sublist.cons _ (List.Sublist.refl _))) (List.Sublist.refl _)
                    refine ⟨fun _ => HH, ?_⟩
                    refine dx_one (i := 9) (by kernel_rfl) ?_
                    refine op_ef0 (i := 9) HF rfl rfl (ef_store HS sz38 rfl rfl rfl) ?_; clear HS; rintro _ w HS
                    replace HH := HS.sub (List.Sublist.cons _ (List.Sublist.cons _ (List.Sublist.refl _))) (List.Sublist.refl _)
                    refine ⟨fun _ => HH, ?_⟩
                    refine dx_done (by kernel_rfl) ?_
                    clear HH
                    exact J _ _ ⟨_, _, HF.sub (by repeat (first | exact ag_nil | refine ag_cons rfl ?_)), by first | exact HS | exact HS.swap | exact HS.rot | exact HS.rot.rot | exact HS.swap.rot | exact HS.rot.swap⟩
                  · refine op_ef (i := 6) HF rfl rfl rfl (ef_alloc HS ze38) ?_; clear HF HS ac; rintro _ w ac ⟨g16, rfl, HS⟩ HF
                    replace HH := HS.sub (List.Sublist.cons _ (List.Sublist.cons _ (List.Sublist.refl _))) (List.Sublist.refl _)
                    refine ⟨fun _ => HH, ?_⟩
                    refine dx_one (i := 5) (by kernel_rfl) ?_
                    refine op_call (i := 5) HF rfl Tryd.func34 (by kernel_rfl) (by kernel_rfl) rfl (node_any y q w (hL.below HS.kp) (Nat.le_trans h2 HS.kp.size)) rfl rfl ?_; clear HF ac
                    rintro _ w ⟨rfl, k1⟩
                    refine ⟨_, rfl, fun ac HF => ?_⟩
                    replace HH := HH.call k1
                    replace HS := HS.call k1
                    clear k1
                    refine ⟨fun _ => HH, ?_⟩
                    refine dx_one (i := 8) (by kernel_rfl) ?_
                    refine op_ef0 (i := 8) HF rfl rfl (ef_store HS sz38 rfl rfl rfl) ?_; clear HS; rintro _ w HS
                    replace HH := HS.sub (List.Sublist.cons _ (List.Sublist.cons _ (List.Sublist.refl _))) (List.Sublist.refl _)
                    refine ⟨fun _ => HH, ?_⟩
                    refine dx_one (i := 9) (by kernel_rfl) ?_
                    refine op_ef0 (i := 9) HF rfl rfl (ef_store HS sz38 rfl rfl rfl) ?_; clear HS; rintro _ w HS
                    replace HH := HS.sub (List.Sublist.cons _ (List.Sublist.cons _ (List.Sublist.refl _))) (List.Sublist.refl _)
                    refine ⟨fun _ => HH, ?_⟩
                    refine dx_done (by kernel_rfl) ?_
                    clear HH
                    exact J _ _ ⟨_, _, HF.sub (by repeat (first | exact ag_nil | refine ag_cons rfl ?_)), by first | exact HS | exact HS.swap | exact HS.rot | exact HS.rot.rot | exact HS.swap.rot | exact HS.rot.swap⟩
                · refine op_ef (i := 6) HF rfl rfl rfl (ef_alloc HS ze38) ?_; clear HF HS ac; rintro _ w ac ⟨g16, rfl, HS⟩ HF
                  replace HH := HS.sub (List.Sublist.cons _ (List.Sublist.cons _ (List.Sublist.refl _))) (List.Sublist.refl _)
                  refine ⟨fun _ => HH, ?_⟩
                  refine dx_one (i := 2) (by kernel_rfl) ?_
                  refine op_call (i := 2) HF rfl Tryd.func34 (by kernel_rfl) (by kernel_rfl) rfl (node_any x q w (hL.below HS.kp) (Nat.le_trans h2 HS.kp.size)) rfl rfl ?_; clear HF ac
                  rintro _ w ⟨rfl, k1⟩
                  refine ⟨_, rfl, fun ac HF => ?_⟩
                  replace HH := HH.call k1
                  replace HS := HS.call k1
                  clear k1
                  refine ⟨fun _ => HH, ?_⟩
                  refine dx_one (i := 5) (by kernel_rfl) ?_
                  refine op_call (i := 5) HF rfl Tryd.func34 (by kernel_rfl) (by kernel_rfl) rfl (node_any y q w (hL.below HS.kp) (Nat.le_trans h2 HS.kp.size)) rfl rfl ?_; clear HF ac
                  rintro _ w ⟨rfl, k1⟩
                  refine ⟨_, rfl, fun ac HF => ?_⟩
                  replace HH := HH.call k1
                  replace HS := HS.call k1
                  clear k1
                  refine ⟨fun _ => HH, ?_⟩
                  refine dx_one (i := 8) (by kernel_rfl) ?_
                  refine op_ef0 (i := 8) HF rfl rfl (ef_store HS sz38 rfl rfl rfl) ?_; clear HS; rintro _ w HS
                  replace HH := HS.sub (List.Sublist.cons _ (List.Sublist.cons _ (List.Sublist.refl _))) (List.Sublist.refl _)
                  refine ⟨fun _ => HH, ?_⟩
                  refine dx_one (i := 9) (by kernel_rfl) ?_
                  refine op_ef0 (i := 9) HF rfl rfl (ef_store HS sz38 rfl rfl rfl) ?_; clear HS; rintro _ w HS
                  replace HH := HS.sub (List.Sublist.cons _ (List.Sublist.cons _ (List.Sublist.refl _))) (List.Sublist.refl _)
                  refine ⟨fun _ => HH, ?_⟩
                  refine dx_done (by kernel_rfl) ?_
                  clear HH
                  exact J _ _ ⟨_, _, HF.sub (by repeat (first | exact ag_nil | refine ag_cons rfl ?_)), by first | exact HS | exact HS.swap | exact HS.rot | exact HS.rot.rot | exact HS.swap.rot | exact HS.rot.swap⟩
        · rw [leadF, if_neg hz0, if_neg (by omega)] at hfx hfy
          refine sx_y HF HS (yl_move rfl) rfl rfl ?_; clear HF ac; intro ac HF
          refine sx_y HF HS (yl_move rfl) rfl rfl ?_; clear HF ac; intro ac HF
          refine sx_y HF HS (yl_move rfl) rfl rfl ?_; clear HF ac; intro ac HF
          refine sx_dec HF HS (yl_eql rfl rfl rfl) rfl rfl ?_ ?_ <;> clear HF ac <;> intro h13x6 ac HF
          · obtain rfl : u = z := by omega
            rw [if_pos rfl] at hfx hfy
            refine sx_y HF HS (yl_pick (b := false) rfl rfl) rfl rfl ?_; clear HF ac; intro ac HF
            refine sx_y HF HS (yl_assign rfl) rfl rfl ?_; clear HF ac; intro ac HF
            refine wpList_nil ?_
            refine then_n ?_
            refine wp_seq ?_
            refine wp_block ?_
            replace HF := HF.sub (m' := [(9, _), (10, _), (14, _), (15, _), (67, _), (68, _), (69, _), (11, _), (12, _)]) (by repeat (first | exact ag_nil | refine ag_cons rfl ?_))
            refine cx_loop (m := [(9, _), (10, _), (14, _), (15, _), (67, _), (68, _), (69, _)]) (HF.sub (by repeat (first | exact ag_nil | refine ag_cons rfl ?_))) (fun m d ac w => ∃ u1 : Nat, 0 < u1 ∧ u1 ≤ u ∧ odd u1 = odd u ∧ d = 2 * u1 ∧ Fr ([(11, .int .i64 (u1 : Int)), (12, .int .i64 (u1 : Int))] ++ m) 124 ac ∧ St [] w0 [⟨g14, sgA [(32, hv q)], 38⟩, ⟨g10, sgA [(32, hv y)], 38⟩, ⟨g9, sgA [(32, hv x)], 38⟩, ⟨g5, sgA [(32, hv other)], 38⟩] [⟨38, 32, a7, p.length, c7, hsc p⟩] w) ?_ ?_
            · exact ⟨_, u, by omega, Nat.le_refl _, rfl, rfl, HF.sub (by repeat (first | exact ag_nil | refine ag_cons rfl ?_)), HS⟩
            · clear HF HS ac w
              rintro d ac w ⟨u1, hu0, hul, hod, rfl, HF, HS⟩
              refine wp_seq ?_
              refine wp_seq ?_
              refine wp_region_lit ?_
              refine sx_y HF HS (yl_move rfl) rfl rfl ?_; clear HF ac; intro ac HF
              refine sx_y HF HS (yl_move rfl) rfl rfl ?_; clear HF ac; intro ac HF
              refine sx_y HF HS (yl_move rfl) rfl rfl ?_; clear HF ac; intro ac HF
              refine sx_y HF HS (yl_remN (q := 2) rfl rfl (by decide)) rfl rfl ?_; clear HF ac; intro ac HF
              refine sx_dec HF HS (yl_eql rfl rfl rfl) rfl rfl ?_ ?_ <;> clear HF ac <;> intro h14x4 ac HF
              · refine sx_y HF HS (yl_pick (b := true) rfl rfl) rfl rfl ?_; clear HF ac; intro ac HF
                refine sx_y HF HS (yl_move rfl) rfl rfl ?_; clear HF ac; intro ac HF
                refine sx_y HF HS (yl_move rfl) rfl rfl ?_; clear HF ac; intro ac HF
                refine sx_y HF HS (yl_gtr rfl rfl (decide_eq_true (by omega))) rfl rfl ?_; clear HF ac; intro ac HF
                refine sx_y HF HS (yl_pick (b := true) rfl rfl) rfl rfl ?_; clear HF ac; intro ac HF
                refine wpList_nil ?_
                refine then_n ?_
                refine cx_true HF rfl ?_
                refine wp_skip ?_
                refine then_n ?_
                refine wp_block ?_
                refine wp_region_lit ?_
                refine sx_y HF HS (yl_move rfl) rfl rfl ?_; clear HF ac; intro ac HF
                refine sx_y HF HS (yl_quoN (q := 2) rfl rfl (by decide) (by omega)) rfl rfl ?_; clear HF ac; intro ac HF
                refine sx_y HF HS (yl_move rfl) rfl rfl ?_; clear HF ac; intro ac HF
                refine sx_y HF HS (yl_quoN (q := 2) rfl rfl (by decide) (by omega)) rfl rfl ?_; clear HF ac; intro ac HF
                refine sx_y HF HS (yl_assign rfl) rfl rfl ?_; clear HF ac; intro ac HF
                refine sx_y HF HS (yl_assign rfl) rfl rfl ?_; clear HF ac; intro ac HF
                refine wpList_nil ?_
                refine blk_n ?_
                refine then_n ?_
                refine ⟨_, ?_, u1 / 2, by omega, by omega, ?_, rfl, HF.sub (by repeat (first | exact ag_nil | refine ag_cons rfl ?_)), HS⟩
                · omega
                · rw [← odd_even u1 (by omega) hu0]; exact hod
              · have hod : odd u = u1 := by rw [← hod, odd_odd u1 (by omega)]
                refine sx_y HF HS (yl_pick (b := true) rfl rfl) rfl rfl ?_; clear HF ac; intro ac HF
                refine sx_y HF HS (yl_move rfl) rfl rfl ?_; clear HF ac; intro ac HF
                refine sx_off HF rfl rfl ?_; clear HF ac; intro ac HF
                refine sx_off HF rfl rfl ?_; clear HF ac; intro ac HF
                refine sx_y HF HS (yl_pick (b := false) rfl rfl) rfl rfl ?_; clear HF ac; intro ac HF
                refine wpList_nil ?_
                refine then_n ?_
                refine cx_false HF rfl ?_
                refine wp_exit ?_
                refine then_x ?_
                refine then_x ?_
                refine blk_hit ?_
                refine then_n ?_
                refine wp_seq ?_
                replace HF := HF.sub (m' := [(9, _), (10, _), (11, _), (12, _), (14, _), (15, _), (67, _), (68, _), (69, _)]) (by repeat (first | exact ag_nil | refine ag_cons rfl ?_))
                refine dx_join HF HS (fun m L R ac w => ∃ g16 g17, Fr ([(16, .pointer (some ⟨g16, 0, none⟩)), (17, .pointer (some ⟨g17, 0, none⟩))] ++ m) 124 ac ∧ St [] w0 (⟨g17, sgA [(32, hv (nodeH y q))], 38⟩ :: ⟨g16, sgA [(32, hv (nodeH x q))], 38⟩ :: L) R w) ?_ ?_
                · clear HF HS ac w
                  rintro ac w ⟨g16, g17, HF, HS⟩
                  refine then_n ?_
                  refine wp_seq ?_
                  refine wp_seq ?_
                  refine wp_region_lit ?_
                  refine sx_y HF HS (yl_move rfl) rfl rfl ?_; clear HF ac; intro ac HF
                  refine wpList_nil ?_
                  refine then_n ?_
                  refine cx_true HF rfl ?_
                  refine dx_region 8 (by kernel_rfl) HS.drew (fun _ h => h.sub (List.Sublist.cons _ (List.Sublist.cons _ (List.Sublist.refl _))) (List.Sublist.refl _)) ?_; clear HS; intro w HS
                  have HH := HS.sub (List.Sublist.cons _ (List.Sublist.cons _ (List.Sublist.refl _))) (List.Sublist.refl _)
                  refine dx_k (i := 0) HF rfl (by kernel_rfl) (by kernel_rfl) (by kernel_rfl) (by kernel_rfl) (by kernel_rfl) (fun _ _ _ h => h) HH (ld_ag ag38 rfl rfl) rfl rfl ?_; clear HF ac; intro ac HF
                  refine dx_k (i := 1) HF rfl (by kernel_rfl) (by kernel_rfl) (by kernel_rfl) (by kernel_rfl) (by kernel_rfl) (fun _ _ _ h => h) HH (ld_ag ag38 rfl rfl) rfl rfl ?_; clear HF ac; intro ac HF
                  refine dx_k (i := 3) HF rfl (by kernel_rfl) (by kernel_rfl) (by kernel_rfl) (by kernel_rfl) (by kernel_rfl) (fun _ _ _ h => h) HH (ld_ag ag38 rfl rfl) rfl rfl ?_; clear HF ac; intro ac HF
                  refine dx_k (i := 4) HF rfl (by kernel_rfl) (by kernel_rfl) (by kernel_rfl) (by kernel_rfl) (by kernel_rfl) (fun _ _ _ h => h) HH (ld_ag ag38 rfl rfl) rfl rfl ?_; clear HF ac; intro ac HF
                  refine dx_one (i := 2) (by kernel_rfl) ?_
                  refine op_call (i := 2) HF rfl Tryd.func34 (by kernel_rfl) (by kernel_rfl) rfl (node_any q x w (hL.below HS.kp) (Nat.le_trans h2 HS.kp.size)) rfl rfl ?_; clear HF ac
                  rintro _ w ⟨rfl, k1⟩
                  refine ⟨_, rfl, fun ac HF => ?_⟩
                  replace HH := HH.call k1
                  replace HS := HS.call k1
                  clear k1
                  refine ⟨fun _ => HH, ?_⟩
                  refine dx_one (i := 5) (by kernel_rfl) ?_
                  refine op_call (i := 5) HF rfl Tryd.func34 (by kernel_rfl) (by kernel_rfl) rfl (node_any q y w (hL.below HS.kp) (Nat.le_trans h2 HS.kp.size)) rfl rfl ?_; clear HF ac
                  rintro _ w ⟨rfl, k1⟩
                  refine ⟨_, rfl, fun ac HF => ?_⟩
                  replace HH := HH.call k1
                  replace HS := HS.call k1
                  clear k1
                  refine ⟨fun _ => HH, ?_⟩
                  refine dx_one (i := 6) (by kernel_rfl) ?_
                  refine op_ef0 (i := 6) HF rfl rfl (ef_store HS sz38 rfl rfl rfl) ?_; clear HS; rintro _ w HS
                  replace HH := HS.sub (List.Sublist.cons _ (List.Sublist.cons _ (List.Sublist.refl _))) (List.Sublist.refl _)
                  refine ⟨fun _ => HH, ?_⟩
                  refine dx_one (i := 7) (by kernel_rfl) ?_
                  refine op_ef0 (i := 7) HF rfl rfl (ef_store HS sz38 rfl rfl rfl) ?_; clear HS; rintro _ w HS
                  replace HH := HS.sub (List.Sublist.cons _ (List.Sublist.cons _ (List.Sublist.refl _))) (List.Sublist.refl _)
                  refine ⟨fun _ => HH, ?_⟩
                  refine dx_done (by kernel_rfl) ?_
                  clear HH
                  refine then_n ?_
                  refine wp_seq ?_
                  refine wp_seq ?_
                  refine wp_region_lit ?_
                  refine sx_y HF HS (ld_ag ag38 rfl rfl) rfl rfl ?_; clear HF ac; intro ac HF
                  refine sx_y HF HS (ld_ag ag38 rfl rfl) rfl rfl ?_; clear HF ac; intro ac HF
                  refine sx_dec HF HS (Tryd.yl_eqH rfl rfl rfl) rfl rfl ?_ ?_ <;> clear HF ac <;> intro h19x2 ac HF
                  · refine wpList_nil ?_
                    refine then_n ?_
                    refine cx_true HF rfl ?_
                    refine wp_seq ?_
                    refine wp_region_lit ?_
                    refine sx_y HF HS (ld_ag ag38 rfl rfl) rfl rfl ?_; clear HF ac; intro ac HF
                    refine sx_y HF HS (ld_ag ag38 rfl rfl) rfl rfl ?_; clear HF ac; intro ac HF
                    refine sx_y HF HS (Tryd.yl_neH rfl rfl (decide_eq_true (by exact hxy))) rfl rfl ?_; clear HF ac; intro ac HF
                    refine sx_y HF HS (yl_move rfl) rfl rfl ?_; clear HF ac; intro ac HF
                    refine sx_call HF Tryd.func28 (by kernel_rfl) (by kernel_rfl) rfl (awake8_any w (hL.below HS.kp) (Nat.le_trans h2 HS.kp.size)) rfl rfl ?_; clear HF ac
                    rintro _ w ⟨rfl, k1⟩
                    refine ⟨_, rfl, fun ac HF => ?_⟩
                    replace HS := HS.call k1
                    clear k1
                    refine sx_y HF HS (yl_pick (b := true) rfl rfl) rfl rfl ?_; clear HF ac; intro ac HF
                    refine sx_y HF HS (yl_assign rfl) rfl rfl ?_; clear HF ac; intro ac HF
                    refine wpList_nil ?_
                    refine then_n ?_
                    refine wp_ret ?_
                    refine then_r ?_
                    refine blk_r ?_
                    refine then_r ?_
                    refine then_r ?_
                    refine blk_r ?_
                    refine then_r ?_
                    exact rt1 rfl HF HS rfl ⟨rfl, HS.kp⟩
                  · refine wpList_nil ?_
                    refine then_n ?_
                    refine cx_false HF rfl ?_
                    refine wp_skip ?_
                    refine then_n ?_
                    refine wp_seq ?_
                    refine dx_region 4 (by kernel_rfl) HS.drew (fun _ h => h.sub (List.Sublist.cons_cons _ (List.Sublist.cons_cons _ (List.Sublist.cons_cons _ (List.Sublist.cons _ (List.Sublist.cons _ (List.Sublist.cons_cons _ List.Sublist.slnil)))))) (List.Sublist.refl _)) ?_; clear HS; intro w HS
                    have HH := HS.sub (List.Sublist.cons_cons _ (List.Sublist.cons_cons _ (List.Sublist.cons_cons _ (List.Sublist.cons _ (List.Sublist.cons _ (List.Sublist.cons_cons _ List.Sublist.slnil)))))) (List.Sublist.refl _)
                    refine dx_k (i := 0) HF rfl (by kernel_rfl) (by kernel_rfl) (by kernel_rfl) (by kernel_rfl) (by kernel_rfl) (fun _ _ _ h => h) HH (ld_ag ag38 rfl rfl) rfl rfl ?_; clear HF ac; intro ac HF
                    refine dx_k (i := 1) HF rfl (by kernel_rfl) (by kernel_rfl) (by kernel_rfl) (by kernel_rfl) (by kernel_rfl) (fun _ _ _ h => h) HH (ld_ag ag38 rfl rfl) rfl rfl ?_; clear HF ac; intro ac HF
                    refine dx_one (i := 2) (by kernel_rfl) ?_
                    refine op_ef0 (i := 2) HF rfl rfl (ef_store HS sz38 rfl rfl rfl) ?_; clear HS; rintro _ w HS
                    replace HH := HS.sub (List.Sublist.cons_cons _ (List.Sublist.cons_cons _ (List.Sublist.cons_cons _ (List.Sublist.cons _ (List.Sublist.cons _ (List.Sublist.cons_cons _ List.Sublist.slnil)))))) (List.Sublist.refl _)
                    refine ⟨fun _ => HH, ?_⟩
                    refine dx_one (i := 3) (by kernel_rfl) ?_
                    refine op_ef0 (i := 3) HF rfl rfl (ef_store HS sz38 rfl rfl rfl) ?_; clear HS; rintro _ w HS
                    replace HH := HS.sub (List.Sublist.cons_cons _ (List.Sublist.cons_cons _ (List.Sublist.cons_cons _ (List.Sublist.cons _ (List.Sublist.cons _ (List.Sublist.cons_cons _ List.Sublist.slnil)))))) (List.Sublist.refl _)
                    refine ⟨fun _ => HH, ?_⟩
                    refine dx_done (by kernel_rfl) ?_
                    clear HH
                    refine then_n ?_
                    refine wp_region_lit ?_
                    refine sx_y HF HS (yl_move rfl) rfl rfl ?_; clear HF ac; intro ac HF
                    refine sx_y HF HS (yl_quoN (q := 2) rfl rfl (by decide) (by omega)) rfl rfl ?_; clear HF ac; intro ac HF
                    refine sx_y HF HS (yl_move rfl) rfl rfl ?_; clear HF ac; intro ac HF
                    refine sx_y HF HS (yl_quoN (q := 2) rfl rfl (by decide) (by omega)) rfl rfl ?_; clear HF ac; intro ac HF
                    refine sx_y HF HS (yl_assign rfl) rfl rfl ?_; clear HF ac; intro ac HF
                    refine sx_y HF HS (yl_assign rfl) rfl rfl ?_; clear HF ac; intro ac HF
                    refine wpList_nil ?_
                    refine blk_n ?_
                    refine then_n ?_
                    refine wp_region_lit ?_
                    have hmx := HS.row0.lim
                    refine sx_y HF HS (yl_add64 (r := ((k + 1 : Nat) : Int)) rfl rfl (by omega) (by omega)) rfl rfl ?_; clear HF ac; intro ac HF
                    refine sx_y HF HS (yl_move rfl) rfl rfl ?_; clear HF ac; intro ac HF
                    refine wpList_nil ?_
                    refine then_n ?_
                    refine ⟨_, ?_, k + 1, u1 / 2, u1 / 2, (nodeH q x), (nodeH q y), by omega, by omega, by omega, ?_, ?_, h19x2, rfl, HF.sub (by repeat (first | exact ag_nil | refine ag_cons rfl ?_)), HS.sub (List.Sublist.cons _ (List.Sublist.cons _ (List.Sublist.cons _ (List.Sublist.refl _)))) (List.Sublist.refl _)⟩
                    · omega
                    · rw [← hfx, hod]
                    · rw [← hfy, hod]
                · intro J
                  refine dx_region 10 (by kernel_rfl) HS.drew (fun _ h => h) ?_; clear HS; intro w HS
                  have HH := HS
                  refine dx_k (i := 0) HF rfl (by kernel_rfl) (by kernel_rfl) (by kernel_rfl) (by kernel_rfl) (by kernel_rfl) (fun _ _ _ h => h) HH (ld_ag ag38 rfl rfl) rfl rfl ?_; clear HF ac; intro ac HF
                  refine dx_k (i := 1) HF rfl (by kernel_rfl) (by kernel_rfl) (by kernel_rfl) (by kernel_rfl) (by kernel_rfl) (fun _ _ _ h => h) HH (ld_ag ag38 rfl rfl) rfl rfl ?_; clear HF ac; intro ac HF
                  refine dx_k (i := 3) HF rfl (by kernel_rfl) (by kernel_rfl) (by kernel_rfl) (by kernel_rfl) (by kernel_rfl) (fun _ _ _ h => h) HH (ld_ag ag38 rfl rfl) rfl rfl ?_; clear HF ac; intro ac HF
                  refine dx_k (i := 4) HF rfl (by kernel_rfl) (by kernel_rfl) (by kernel_rfl) (by kernel_rfl) (by kernel_rfl) (fun _ _ _ h => h) HH (ld_ag ag38 rfl rfl) rfl rfl ?_; clear HF ac; intro ac HF
                  refine dx_three (i := 2) (j := 6) (j2 := 7) (by kernel_rfl) ?_ ?_ ?_
                  · refine op_call (i := 2) HF rfl Tryd.func34 (by kernel_rfl) (by kernel_rfl) rfl (node_any x q w (hL.below HS.kp) (Nat.le_trans h2 HS.kp.size)) rfl rfl ?_; clear HF ac
                    rintro _ w ⟨rfl, k1⟩
                    refine ⟨_, rfl, fun ac HF => ?_⟩
                    replace HH := HH.call k1
                    replace HS := HS.call k1
                    clear k1
                    refine ⟨fun _ => HH, ?_⟩
                    refine dx_three (i := 5) (j := 6) (j2 := 7) (by kernel_rfl) ?_ ?_ ?_
                    · refine op_call (i := 5) HF rfl Tryd.func34 (by kernel_rfl) (by kernel_rfl) rfl (node_any y q w (hL.below HS.kp) (Nat.le_trans h2 HS.kp.size)) rfl rfl ?_; clear HF ac
                      rintro _ w ⟨rfl, k1⟩
                      refine ⟨_, rfl, fun ac HF => ?_⟩
                      replace HH := HH.call k1
                      replace HS := HS.call k1
                      clear k1
                      refine ⟨fun _ => HH, ?_⟩
                      refine dx_two (i := 6) (j := 7) (by kernel_rfl) ?_ ?_
                      · refine op_ef (i := 6) HF rfl rfl rfl (ef_alloc HS ze38) ?_; clear HF HS ac; rintro _ w ac ⟨g16, rfl, HS⟩ HF
                        replace HH := HS.sub (List.Sublist.cons _ (List.Sublist.refl _)) (List.Sublist.refl _)
                        refine ⟨fun _ => HH, ?_⟩
                        refine dx_one (i := 7) (by kernel_rfl) ?_
                        refine op_ef (i := 7) HF rfl rfl rfl (ef_alloc HS ze38) ?_; clear HF HS ac; rintro _ w ac ⟨g17, rfl, HS⟩ HF
                        replace HH := HS.sub (List.Sublist.cons _ (List.Sublist.cons _ (List.Sublist.refl _))) (List.Sublist.refl _)
                        refine ⟨fun _ => HH, ?_⟩
                        refine dx_one (i := 8) (by kernel_rfl) ?_
                        refine op_ef0 (i := 8) HF rfl rfl (ef_store HS sz38 rfl rfl rfl) ?_; clear HS; rintro _ w HS
                        replace HH := HS.sub (List.Sublist.cons _ (List.Sublist.cons _ (List.Sublist.refl _))) (List.Sublist.refl _)
                        refine ⟨fun _ => HH, ?_⟩
                        refine dx_one (i := 9) (by kernel_rfl) ?_
                        refine op_ef0 (i := 9) HF rfl rfl (ef_store HS sz38 rfl rfl rfl) ?_; clear HS; rintro _ w HS
                        replace HH := HS.sub (List.Sublist.cons _ (List.Sublist.cons _ (List.Sublist.refl _))) (List.Sublist.refl _)
                        refine ⟨fun _ => HH, ?_⟩
                        refine dx_done (by kernel_rfl) ?_
                        clear HH
                        exact J _ _ ⟨_, _, HF.sub (by repeat (first | exact ag_nil | refine ag_cons rfl ?_)), by first | exact HS | exact HS.swap | exact HS.rot | exact HS.rot.rot | exact HS.swap.rot | exact HS.rot.swap⟩
                      · refine op_ef (i := 7) HF rfl rfl rfl (ef_alloc HS ze38) ?_; clear HF HS ac; rintro _ w ac ⟨g17, rfl, HS⟩ HF
                        replace HH := HS.sub (List.Sublist.cons _ (List.Sublist.refl _)) (List.Sublist.refl _)
                        refine ⟨fun _ => HH, ?_⟩
                        refine dx_one (i := 6) (by kernel_rfl) ?_
                        refine op_ef (i := 6) HF rfl rfl rfl (ef_alloc HS ze38) ?_; clear HF HS ac; rintro _ w ac ⟨g16, rfl, HS⟩ HF
                        replace HH := HS.sub (List.Sublist.cons _ (List.Sublist.cons _ (List.Sublist.refl _))) (List.Sublist.refl _)
                        refine ⟨fun _ => HH, ?_⟩
                        refine dx_one (i := 8) (by kernel_rfl) ?_
                        refine op_ef0 (i := 8) HF rfl rfl (ef_store HS sz38 rfl rfl rfl) ?_; clear HS; rintro _ w HS
                        replace HH := HS.sub (List.Sublist.cons _ (List.Sublist.cons _ (List.Sublist.refl _))) (List.Sublist.refl _)
                        refine ⟨fun _ => HH, ?_⟩
                        refine dx_one (i := 9) (by kernel_rfl) ?_
                        refine op_ef0 (i := 9) HF rfl rfl (ef_store HS sz38 rfl rfl rfl) ?_; clear HS; rintro _ w HS
                        replace HH := HS.sub (List.Sublist.cons _ (List.Sublist.cons _ (List.Sublist.refl _))) (List.Sublist.refl _)
                        refine ⟨fun _ => HH, ?_⟩
                        refine dx_done (by kernel_rfl) ?_
                        clear HH
                        exact J _ _ ⟨_, _, HF.sub (by repeat (first | exact ag_nil | refine ag_cons rfl ?_)), by first | exact HS | exact HS.swap | exact HS.rot | exact HS.rot.rot | exact HS.swap.rot | exact HS.rot.swap⟩
                    · refine op_ef (i := 6) HF rfl rfl rfl (ef_alloc HS ze38) ?_; clear HF HS ac; rintro _ w ac ⟨g16, rfl, HS⟩ HF
                      replace HH := HS.sub (List.Sublist.cons _ (List.Sublist.refl _)) (List.Sublist.refl _)
                      refine ⟨fun _ => HH, ?_⟩
                      refine dx_two (i := 5) (j := 7) (by kernel_rfl) ?_ ?_
                      · refine op_call (i := 5) HF rfl Tryd.func34 (by kernel_rfl) (by kernel_rfl) rfl (node_any y q w (hL.below HS.kp) (Nat.le_trans h2 HS.kp.size)) rfl rfl ?_; clear HF ac
                        rintro _ w ⟨rfl, k1⟩
                        refine ⟨_, rfl, fun ac HF => ?_⟩
                        replace HH := HH.call k1
                        replace HS := HS.call k1
                        clear k1
                        refine ⟨fun _ => HH, ?_⟩
                        refine dx_one (i := 7) (by kernel_rfl) ?_
                        refine op_ef (i := 7) HF rfl rfl rfl (ef_alloc HS ze38) ?_; clear HF HS ac; rintro _ w ac ⟨g17, rfl, HS⟩ HF
                        replace HH := HS.sub (List.Sublist.cons _ (List.Sublist.cons _ (List.Sublist.refl _))) (List.Sublist.refl _)
                        refine ⟨fun _ => HH, ?_⟩
                        refine dx_one (i := 8) (by kernel_rfl) ?_
                        refine op_ef0 (i := 8) HF rfl rfl (ef_store HS sz38 rfl rfl rfl) ?_; clear HS; rintro _ w HS
                        replace HH := HS.sub (List.Sublist.cons _ (List.Sublist.cons _ (List.Sublist.refl _))) (List.Sublist.refl _)
                        refine ⟨fun _ => HH, ?_⟩
                        refine dx_one (i := 9) (by kernel_rfl) ?_
                        refine op_ef0 (i := 9) HF rfl rfl (ef_store HS sz38 rfl rfl rfl) ?_; clear HS; rintro _ w HS
                        replace HH := HS.sub (List.Sublist.cons _ (List.Sublist.cons _ (List.Sublist.refl _))) (List.Sublist.refl _)
                        refine ⟨fun _ => HH, ?_⟩
                        refine dx_done (by kernel_rfl) ?_
                        clear HH
                        exact J _ _ ⟨_, _, HF.sub (by repeat (first | exact ag_nil | refine ag_cons rfl ?_)), by first | exact HS | exact HS.swap | exact HS.rot | exact HS.rot.rot | exact HS.swap.rot | exact HS.rot.swap⟩
                      · refine op_ef (i := 7) HF rfl rfl rfl (ef_alloc HS ze38) ?_; clear HF HS ac; rintro _ w ac ⟨g17, rfl, HS⟩ HF
                        replace HH := HS.sub (List.Sublist.cons _ (List.Sublist.cons _ (List.Sublist.refl _))) (List.Sublist.refl _)
                        refine ⟨fun _ => HH, ?_⟩
                        refine dx_one (i := 5) (by kernel_rfl) ?_
                        refine op_call (i := 5) HF rfl Tryd.func34 (by kernel_rfl) (by kernel_rfl) rfl (node_any y q w (hL.below HS.kp) (Nat.le_trans h2 HS.kp.size)) rfl rfl ?_; clear HF ac
                        rintro _ w ⟨rfl, k1⟩
                        refine ⟨_, rfl, fun ac HF => ?_⟩
                        replace HH := HH.call k1
                        replace HS := HS.call k1
                        clear k1
                        refine ⟨fun _ => HH, ?_⟩
                        refine dx_one (i := 8) (by kernel_rfl) ?_
                        refine op_ef0 (i := 8) HF rfl rfl (ef_store HS sz38 rfl rfl rfl) ?_; clear HS; rintro _ w HS
                        replace HH := HS.sub (List.Sublist.cons _ (List.Sublist.cons _ (List.Sublist.refl _))) (List.Sublist.refl _)
                        refine ⟨fun _ => HH, ?_⟩
                        refine dx_one (i := 9) (by kernel_rfl) ?_
                        refine op_ef0 (i := 9) HF rfl rfl (ef_store HS sz38 rfl rfl rfl) ?_; clear HS; rintro _ w HS
                        replace HH := HS.sub (List.Sublist.cons _ (List.Sublist.cons _ (List.Sublist.refl _))) (List.Sublist.refl _)
                        refine ⟨fun _ => HH, ?_⟩
                        refine dx_done (by kernel_rfl) ?_
                        clear HH
                        exact J _ _ ⟨_, _, HF.sub (by repeat (first | exact ag_nil | refine ag_cons rfl ?_)), by first | exact HS | exact HS.swap | exact HS.rot | exact HS.rot.rot | exact HS.swap.rot | exact HS.rot.swap⟩
                    · refine op_ef (i := 7) HF rfl rfl rfl (ef_alloc HS ze38) ?_; clear HF HS ac; rintro _ w ac ⟨g17, rfl, HS⟩ HF
                      replace HH := HS.sub (List.Sublist.cons _ (List.Sublist.refl _)) (List.Sublist.refl _)
                      refine ⟨fun _ => HH, ?_⟩
                      refine dx_two (i := 5) (j := 6) (by kernel_rfl) ?_ ?_
                      · refine op_call (i := 5) HF rfl Tryd.func34 (by kernel_rfl) (by kernel_rfl) rfl (node_any y q w (hL.below HS.kp) (Nat.le_trans h2 HS.kp.size)) rfl rfl ?_; clear HF ac
                        rintro _ w ⟨rfl, k1⟩
                        refine ⟨_, rfl, fun ac HF => ?_⟩
                        replace HH := HH.call k1
                        replace HS := HS.call k1
                        clear k1
                        refine ⟨fun _ => HH, ?_⟩
                        refine dx_one (i := 6) (by kernel_rfl) ?_
                        refine op_ef (i := 6) HF rfl rfl rfl (ef_alloc HS ze38) ?_; clear HF HS ac; rintro _ w ac ⟨g16, rfl, HS⟩ HF
                        replace HH := HS.sub (List.Sublist.cons _ (List.Sublist.cons _ (List.Sublist.refl _))) (List.Sublist.refl _)
                        refine ⟨fun _ => HH, ?_⟩
                        refine dx_one (i := 8) (by kernel_rfl) ?_
                        refine op_ef0 (i := 8) HF rfl rfl (ef_store HS sz38 rfl rfl rfl) ?_; clear HS; rintro _ w HS
                        replace HH := HS.sub (List.Sublist.cons _ (List.Sublist.cons _ (List.Sublist.refl _))) (List.Sublist.refl _)
                        refine ⟨fun _ => HH, ?_⟩
                        refine dx_one (i := 9) (by kernel_rfl) ?_
                        refine op_ef0 (i := 9) HF rfl rfl (ef_store HS sz38 rfl rfl rfl) ?_; clear HS; rintro _ w HS
                        replace HH := HS.sub (List.Sublist.cons _ (List.Sublist.cons _ (List.Sublist.refl _))) (List.Sublist.refl _)
                        refine ⟨fun _ => HH, ?_⟩
                        refine dx_done (by kernel_rfl) ?_
                        clear HH
                        exact J _ _ ⟨_, _, HF.sub (by repeat (first | exact ag_nil | refine ag_cons rfl ?_)), by first | exact HS | exact HS.swap | exact HS.rot | exact HS.rot.rot | exact HS.swap.rot | exact HS.rot.swap⟩
                      · refine op_ef (i := 6) HF rfl rfl rfl (ef_alloc HS ze38) ?_; clear HF HS ac; rintro _ w ac ⟨g16, rfl, HS⟩ HF
                        replace HH := HS.sub (List.Sublist.cons _ (List.Sublist.cons _ (List.Sublist.refl _))) (List.Sublist.refl _)
                        refine ⟨fun _ => HH, ?_⟩
                        refine dx_one (i := 5) (by kernel_rfl) ?_
                        refine op_call (i := 5) HF rfl Tryd.func34 (by kernel_rfl) (by kernel_rfl) rfl (node_any y q w (hL.below HS.kp) (Nat.le_trans h2 HS.kp.size)) rfl rfl ?_; clear HF ac
                        rintro _ w ⟨rfl, k1⟩
                        refine ⟨_, rfl, fun ac HF => ?_⟩
                        replace HH := HH.call k1
                        replace HS := HS.call k1
                        clear k1
                        refine ⟨fun _ => HH, ?_⟩
                        refine dx_one (i := 8) (by kernel_rfl) ?_
                        refine op_ef0 (i := 8) HF rfl rfl (ef_store HS sz38 rfl rfl rfl) ?_; clear HS; rintro _ w HS
                        replace HH := HS.sub (List.Sublist.cons _ (List.Sublist.cons _ (List.Sublist.refl _))) (List.Sublist.refl _)
                        refine ⟨fun _ => HH, ?_⟩
                        refine dx_one (i := 9) (by kernel_rfl) ?_
                        refine op_ef0 (i := 9) HF rfl rfl (ef_store HS sz38 rfl rfl rfl) ?_; clear HS; rintro _ w HS
                        replace HH := HS.sub (List.Sublist.cons _ (List.Sublist.cons _ (List.Sublist.refl _))) (List.Sublist.refl _)
                        refine ⟨fun _ => HH, ?_⟩
                        refine dx_done (by kernel_rfl) ?_
                        clear HH
                        exact J _ _ ⟨_, _, HF.sub (by repeat (first | exact ag_nil | refine ag_cons rfl ?_)), by first | exact HS | exact HS.swap | exact HS.rot | exact HS.rot.rot | exact HS.swap.rot | exact HS.rot.swap⟩
                  · refine op_ef (i := 6) HF rfl rfl rfl (ef_alloc HS ze38) ?_; clear HF HS ac; rintro _ w ac ⟨g16, rfl, HS⟩ HF
                    replace HH := HS.sub (List.Sublist.cons _ (List.Sublist.refl _)) (List.Sublist.refl _)
                    refine ⟨fun _ => HH, ?_⟩
                    refine dx_two (i := 2) (j := 7) (by kernel_rfl) ?_ ?_
                    · refine op_call (i := 2) HF rfl Tryd.func34 (by kernel_rfl) (by kernel_rfl) rfl (node_any x q w (hL.below HS.kp) (Nat.le_trans h2 HS.kp.size)) rfl rfl ?_; clear HF ac
                      rintro _ w ⟨rfl, k1⟩
                      refine ⟨_, rfl, fun ac HF => ?_⟩
                      replace HH := HH.call k1
                      replace HS := HS.call k1
                      clear k1
                      refine ⟨fun _ => HH, ?_⟩
                      refine dx_two (i := 5) (j := 7) (by kernel_rfl) ?_ ?_
                      · refine op_call (i := 5) HF rfl Tryd.func34 (by kernel_rfl) (by kernel_rfl) rfl (node_any y q w (hL.below HS.kp) (Nat.le_trans h2 HS.kp.size)) rfl rfl ?_; clear HF ac
                        rintro _ w ⟨rfl, k1⟩
                        refine ⟨_, rfl, fun ac HF => ?_⟩
                        replace HH := HH.call k1
                        replace HS := HS.call k1
                        clear k1
                        refine ⟨fun _ => HH, ?_⟩
                        refine dx_one (i := 7) (by kernel_rfl) ?_
                        refine op_ef (i := 7) HF rfl rfl rfl (ef_alloc HS ze38) ?_; clear HF HS ac; rintro _ w ac ⟨g17, rfl, HS⟩ HF
                        replace HH := HS.sub (List.Sublist.cons _ (List.Sublist.cons _ (List.Sublist.refl _))) (List.Sublist.refl _)
                        refine ⟨fun _ => HH, ?_⟩
                        refine dx_one (i := 8) (by kernel_rfl) ?_
                        refine op_ef0 (i := 8) HF rfl rfl (ef_store HS sz38 rfl rfl rfl) ?_; clear HS; rintro _ w HS
                        replace HH := HS.sub (List.Sublist.cons _ (List.Sublist.cons _ (List.Sublist.refl _))) (List.Sublist.refl _)
                        refine ⟨fun _ => HH, ?_⟩
                        refine dx_one (i := 9) (by kernel_rfl) ?_
                        refine op_ef0 (i := 9) HF rfl rfl (ef_store HS sz38 rfl rfl rfl) ?_; clear HS; rintro _ w HS
                        replace HH := HS.sub (List.Sublist.cons _ (List.Sublist.cons _ (List.Sublist.refl _))) (List.Sublist.refl _)
                        refine ⟨fun _ => HH, ?_⟩
                        refine dx_done (by kernel_rfl) ?_
                        clear HH
                        exact J _ _ ⟨_, _, HF.sub (by repeat (first | exact ag_nil | refine ag_cons rfl ?_)), by first | exact HS | exact HS.swap | exact HS.rot | exact HS.rot.rot | exact HS.swap.rot | exact HS.rot.swap⟩
                      · refine op_ef (i := 7) HF rfl rfl rfl (ef_alloc HS ze38) ?_; clear HF HS ac; rintro _ w ac ⟨g17, rfl, HS⟩ HF
                        replace HH := HS.sub (List.Sublist.cons _ (List.Sublist.cons _ (List.Sublist.refl _))) (List.Sublist.refl _)
                        refine ⟨fun _ => HH, ?_⟩
                        refine dx_one (i := 5) (by kernel_rfl) ?_
                        refine op_call (i := 5) HF rfl Tryd.func34 (by kernel_rfl) (by kernel_rfl) rfl (node_any y q w (hL.below HS.kp) (Nat.le_trans h2 HS.kp.size)) rfl rfl ?_; clear HF ac
                        rintro _ w ⟨rfl, k1⟩
                        refine ⟨_, rfl, fun ac HF => ?_⟩
                        replace HH := HH.call k1
                        replace HS := HS.call k1
                        clear k1
                        refine ⟨fun _ => HH, ?_⟩
                        refine dx_one (i := 8) (by kernel_rfl) ?_
                        refine op_ef0 (i := 8) HF rfl rfl (ef_store HS sz38 rfl rfl rfl) ?_; clear HS; rintro _ w HS
                        replace HH := HS.sub (List.Sublist.cons _ (List.Sublist.cons _ (List.Sublist.refl _))) (List.Sublist.refl _)
                        refine ⟨fun _ => HH, ?_⟩
                        refine dx_one (i := 9) (by kernel_rfl) ?_
                        refine op_ef0 (i := 9) HF rfl rfl (ef_store HS sz38 rfl rfl rfl) ?_; clear HS; rintro _ w HS
                        replace HH := HS.sub (List.Sublist.cons _ (List.Sublist.cons _ (List.Sublist.refl _))) (List.Sublist.refl _)
                        refine ⟨fun _ => HH, ?_⟩
                        refine dx_done (by kernel_rfl) ?_
                        clear HH
                        exact J _ _ ⟨_, _, HF.sub (by repeat (first | exact ag_nil | refine ag_cons rfl ?_)), by first | exact HS | exact HS.swap | exact HS.rot | exact HS.rot.rot | exact HS.swap.rot | exact HS.rot.swap⟩
                    · refine op_ef (i := 7) HF rfl rfl rfl (ef_alloc HS ze38) ?_; clear HF HS ac; rintro _ w ac ⟨g17, rfl, HS⟩ HF
                      replace HH := HS.sub (List.Sublist.cons _ (List.Sublist.cons _ (List.Sublist.refl _))) (List.Sublist.refl _)
                      refine ⟨fun _ => HH, ?_⟩
                      refine dx_one (i := 2) (by kernel_rfl) ?_
                      refine op_call (i := 2) HF rfl Tryd.func34 (by kernel_rfl) (by kernel_rfl) rfl (node_any x q w (hL.below HS.kp) (Nat.le_trans h2 HS.kp.size)) rfl rfl ?_; clear HF ac
                      rintro _ w ⟨rfl, k1⟩
                      refine ⟨_, rfl, fun ac HF => ?_⟩
                      replace HH := HH.call k1
                      replace HS := HS.call k1
                      clear k1
                      refine ⟨fun _ => HH, ?_⟩
                      refine dx_one (i := 5) (by kernel_rfl) ?_
                      refine op_call (i := 5) HF rfl Tryd.func34 (by kernel_rfl) (by kernel_rfl) rfl (node_any y q w (hL.below HS.kp) (Nat.le_trans h2 HS.kp.size)) rfl rfl ?_; clear HF ac
                      rintro _ w ⟨rfl, k1⟩
                      refine ⟨_, rfl, fun ac HF => ?_⟩
                      replace HH := HH.call k1
                      replace HS := HS.call k1
                      clear k1
                      refine ⟨fun _ => HH, ?_⟩
                      refine dx_one (i := 8) (by kernel_rfl) ?_
                      refine op_ef0 (i := 8) HF rfl rfl (ef_store HS sz38 rfl rfl rfl) ?_; clear HS; rintro _ w HS
                      replace HH := HS.sub (List.Sublist.cons _ (List.Sublist.cons _ (List.Sublist.refl _))) (List.Sublist.refl _)
                      refine ⟨fun _ => HH, ?_⟩
                      refine dx_one (i := 9) (by kernel_rfl) ?_
                      refine op_ef0 (i := 9) HF rfl rfl (ef_store HS sz38 rfl rfl rfl) ?_; clear HS; rintro _ w HS
                      replace HH := HS.sub (List.Sublist.cons _ (List.Sublist.cons _ (List.Sublist.refl _))) (List.Sublist.refl _)
                      refine ⟨fun _ => HH, ?_⟩
                      refine dx_done (by kernel_rfl) ?_
                      clear HH
                      exact J _ _ ⟨_, _, HF.sub (by repeat (first | exact ag_nil | refine ag_cons rfl ?_)), by first | exact HS | exact HS.swap | exact HS.rot | exact HS.rot.rot | exact HS.swap.rot | exact HS.rot.swap⟩
                  · refine op_ef (i := 7) HF rfl rfl rfl (ef_alloc HS ze38) ?_; clear HF HS ac; rintro _ w ac ⟨g17, rfl, HS⟩ HF
                    replace HH := HS.sub (List.Sublist.cons _ (List.Sublist.refl _)) (List.Sublist.refl _)
                    refine ⟨fun _ => HH, ?_⟩
                    refine dx_two (i := 2) (j := 6) (by kernel_rfl) ?_ ?_
                    · refine op_call (i := 2) HF rfl Tryd.func34 (by kernel_rfl) (by kernel_rfl) rfl (node_any x q w (hL.below HS.kp) (Nat.le_trans h2 HS.kp.size)) rfl rfl ?_; clear HF ac
                      rintro _ w ⟨rfl, k1⟩
                      refine ⟨_, rfl, fun ac HF => ?_⟩
                      replace HH := HH.call k1
                      replace HS := HS.call k1
                      clear k1
                      refine ⟨fun _ => HH, ?_⟩
                      refine dx_two (i := 5) (j := 6) (by kernel_rfl) ?_ ?_
                      · refine op_call (i := 5) HF rfl Tryd.func34 (by kernel_rfl) (by kernel_rfl) rfl (node_any y q w (hL.below HS.kp) (Nat.le_trans h2 HS.kp.size)) rfl rfl ?_; clear HF ac
                        rintro _ w ⟨rfl, k1⟩
                        refine ⟨_, rfl, fun ac HF => ?_⟩
                        replace HH := HH.call k1
                        replace HS := HS.call k1
                        clear k1
                        refine ⟨fun _ => HH, ?_⟩
                        refine dx_one (i := 6) (by kernel_rfl) ?_
                        refine op_ef (i := 6) HF rfl rfl rfl (ef_alloc HS ze38) ?_; clear HF HS ac; rintro _ w ac ⟨g16, rfl, HS⟩ HF
                        replace HH := HS.sub (List.Sublist.cons _ (List.Sublist.cons _ (List.Sublist.refl _))) (List.Sublist.refl _)
                        refine ⟨fun _ => HH, ?_⟩
                        refine dx_one (i := 8) (by kernel_rfl) ?_
                        refine op_ef0 (i := 8) HF rfl rfl (ef_store HS sz38 rfl rfl rfl) ?_; clear HS; rintro _ w HS
                        replace HH := HS.sub (List.Sublist.cons _ (List.Sublist.cons _ (List.Sublist.refl _))) (List.Sublist.refl _)
                        refine ⟨fun _ => HH, ?_⟩
                        refine dx_one (i := 9) (by kernel_rfl) ?_
                        refine op_ef0 (i := 9) HF rfl rfl (ef_store HS sz38 rfl rfl rfl) ?_; clear HS; rintro _ w HS
                        replace HH := HS.sub (List.Sublist.cons _ (List.Sublist.cons _ (List.Sublist.refl _))) (List.Sublist.refl _)
                        refine ⟨fun _ => HH, ?_⟩
                        refine dx_done (by kernel_rfl) ?_
                        clear HH
                        exact J _ _ ⟨_, _, HF.sub (by repeat (first | exact ag_nil | refine ag_cons rfl ?_)), by first | exact HS | exact HS.swap | exact HS.rot | exact HS.rot.rot | exact HS.swap.rot | exact HS.rot.swap⟩
                      · refine op_ef (i := 6) HF rfl rfl rfl (ef_alloc HS ze38) ?_; clear HF HS ac; rintro _ w ac ⟨g16, rfl, HS⟩ HF
                        replace HH := HS.sub (List.Sublist.cons _ (List.Sublist.cons _ (List.Sublist.refl _))) (List.Sublist.refl _)
                        refine ⟨fun _ => HH, ?_⟩
                        refine dx_one (i := 5) (by kernel_rfl) ?_
                        refine op_call (i := 5) HF rfl Tryd.func34 (by kernel_rfl) (by kernel_rfl) rfl (node_any y q w (hL.below HS.kp) (Nat.le_trans h2 HS.kp.size)) rfl rfl ?_; clear HF ac
                        rintro _ w ⟨rfl, k1⟩
                        refine ⟨_, rfl, fun ac HF => ?_⟩
                        replace HH := HH.call k1
                        replace HS := HS.call k1
                        clear k1
                        refine ⟨fun _ => HH, ?_⟩
                        refine dx_one (i := 8) (by kernel_rfl) ?_
                        refine op_ef0 (i := 8) HF rfl rfl (ef_store HS sz38 rfl rfl rfl) ?_; clear HS; rintro _ w HS
                        replace HH := HS.sub (List.Sublist.cons _ (List.Sublist.cons _ (List.Sublist.refl _))) (List.Sublist.refl _)
                        refine ⟨fun _ => HH, ?_⟩
                        refine dx_one (i := 9) (by kernel_rfl) ?_
                        refine op_ef0 (i := 9) HF rfl rfl (ef_store HS sz38 rfl rfl rfl) ?_; clear HS; rintro _ w HS
                        replace HH := HS.sub (List.Sublist.cons _ (List.Sublist.cons _ (List.Sublist.refl _))) (List.Sublist.refl _)
                        refine ⟨fun _ => HH, ?_⟩
                        refine dx_done (by kernel_rfl) ?_
                        clear HH
                        exact J _ _ ⟨_, _, HF.sub (by repeat (first | exact ag_nil | refine ag_cons rfl ?_)), by first | exact HS | exact HS.swap | exact HS.rot | exact HS.rot.rot | exact HS.swap.rot | exact HS.rot.swap⟩
                    · refine op_ef (i := 6) HF rfl rfl rfl (ef_alloc HS ze38) ?_; clear HF HS ac; rintro _ w ac ⟨g16, rfl, HS⟩ HF
                      replace HH := HS.sub (List.Sublist.cons _ (List.Sublist.cons _ (List.Sublist.refl _))) (List.Sublist.refl _)
                      refine ⟨fun _ => HH, ?_⟩
                      refine dx_one (i := 2) (by kernel_rfl) ?_
                      refine op_call (i := 2) HF rfl Tryd.func34 (by kernel_rfl) (by kernel_rfl) rfl (node_any x q w (hL.below HS.kp) (Nat.le_trans h2 HS.kp.size)) rfl rfl ?_; clear HF ac
                      rintro _ w ⟨rfl, k1⟩
                      refine ⟨_, rfl, fun ac HF => ?_⟩
                      replace HH := HH.call k1
                      replace HS := HS.call k1
                      clear k1
                      refine ⟨fun _ => HH, ?_⟩
                      refine dx_one (i := 5) (by kernel_rfl) ?_
                      refine op_call (i := 5) HF rfl Tryd.func34 (by kernel_rfl) (by kernel_rfl) rfl (node_any y q w (hL.below HS.kp) (Nat.le_trans h2 HS.kp.size)) rfl rfl ?_; clear HF ac
                      rintro _ w ⟨rfl, k1⟩
                      refine ⟨_, rfl, fun ac HF => ?_⟩
                      replace HH := HH.call k1
                      replace HS := HS.call k1
                      clear k1
                      refine ⟨fun _ => HH, ?_⟩
                      refine dx_one (i := 8) (by kernel_rfl) ?_
                      refine op_ef0 (i := 8) HF rfl rfl (ef_store HS sz38 rfl rfl rfl) ?_; clear HS; rintro _ w HS
                      replace HH := HS.sub (List.Sublist.cons _ (List.Sublist.cons _ (List.Sublist.refl _))) (List.Sublist.refl _)
                      refine ⟨fun _ => HH, ?_⟩
                      refine dx_one (i := 9) (by kernel_rfl) ?_
                      refine op_ef0 (i := 9) HF rfl rfl (ef_store HS sz38 rfl rfl rfl) ?_; clear HS; rintro _ w HS
                      replace HH := HS.sub (List.Sublist.cons _ (List.Sublist.cons _ (List.Sublist.refl _))) (List.Sublist.refl _)
                      refine ⟨fun _ => HH, ?_⟩
                      refine dx_done (by kernel_rfl) ?_
                      clear HH
                      exact J _ _ ⟨_, _, HF.sub (by repeat (first | exact ag_nil | refine ag_cons rfl ?_)), by first | exact HS | exact HS.swap | exact HS.rot | exact HS.rot.rot | exact HS.swap.rot | exact HS.rot.swap⟩
          · rw [if_neg (by omega)] at hfx hfy
            refine sx_y HF HS (yl_pick (b := false) rfl rfl) rfl rfl ?_; clear HF ac; intro ac HF
            refine sx_y HF HS (yl_assign rfl) rfl rfl ?_; clear HF ac; intro ac HF
            refine wpList_nil ?_
            refine then_n ?_
            refine wp_seq ?_
            refine wp_block ?_
            replace HF := HF.sub (m' := [(9, _), (10, _), (14, _), (15, _), (67, _), (68, _), (69, _), (11, _), (12, _)]) (by repeat (first | exact ag_nil | refine ag_cons rfl ?_))
            refine cx_loop (m := [(9, _), (10, _), (14, _), (15, _), (67, _), (68, _), (69, _)]) (HF.sub (by repeat (first | exact ag_nil | refine ag_cons rfl ?_))) (fun m d ac w => d = 0 ∧ Fr ([(11, .int .i64 (u : Int)), (12, .int .i64 (z : Int))] ++ m) 124 ac ∧ St [] w0 [⟨g14, sgA [(32, hv q)], 38⟩, ⟨g10, sgA [(32, hv y)], 38⟩, ⟨g9, sgA [(32, hv x)], 38⟩, ⟨g5, sgA [(32, hv other)], 38⟩] [⟨38, 32, a7, p.length, c7, hsc p⟩] w) ?_ ?_
            · exact ⟨_, rfl, HF.sub (by repeat (first | exact ag_nil | refine ag_cons rfl ?_)), HS⟩
            · clear HF HS ac w
              rintro d ac w ⟨rfl, HF, HS⟩
              refine wp_seq ?_
              refine wp_seq ?_
              refine wp_region_lit ?_
              refine sx_y HF HS (yl_move rfl) rfl rfl ?_; clear HF ac; intro ac HF
              refine sx_y HF HS (yl_move rfl) rfl rfl ?_; clear HF ac; intro ac HF
              refine sx_off HF rfl rfl ?_; clear HF ac; intro ac HF
              refine sx_off HF rfl rfl ?_; clear HF ac; intro ac HF
              refine sx_off HF rfl rfl ?_; clear HF ac; intro ac HF
              refine sx_y HF HS (yl_pick (b := false) rfl rfl) rfl rfl ?_; clear HF ac; intro ac HF
              refine sx_y HF HS (yl_move rfl) rfl rfl ?_; clear HF ac; intro ac HF
              refine sx_off HF rfl rfl ?_; clear HF ac; intro ac HF
              refine sx_off HF rfl rfl ?_; clear HF ac; intro ac HF
              refine sx_y HF HS (yl_pick (b := false) rfl rfl) rfl rfl ?_; clear HF ac; intro ac HF
              refine wpList_nil ?_
              refine then_n ?_
              refine cx_false HF rfl ?_
              refine wp_exit ?_
              refine then_x ?_
              refine then_x ?_
              refine blk_hit ?_
              refine then_n ?_
              refine wp_seq ?_
              replace HF := HF.sub (m' := [(9, _), (10, _), (11, _), (12, _), (14, _), (15, _), (67, _), (68, _), (69, _)]) (by repeat (first | exact ag_nil | refine ag_cons rfl ?_))
              refine dx_join HF HS (fun m L R ac w => ∃ g16 g17, Fr ([(16, .pointer (some ⟨g16, 0, none⟩)), (17, .pointer (some ⟨g17, 0, none⟩))] ++ m) 124 ac ∧ St [] w0 (⟨g17, sgA [(32, hv (nodeH y q))], 38⟩ :: ⟨g16, sgA [(32, hv (nodeH x q))], 38⟩ :: L) R w) ?_ ?_
              · clear HF HS ac w
                rintro ac w ⟨g16, g17, HF, HS⟩
                refine then_n ?_
                refine wp_seq ?_
                refine wp_seq ?_
                refine wp_region_lit ?_
                refine sx_y HF HS (yl_move rfl) rfl rfl ?_; clear HF ac; intro ac HF
                refine wpList_nil ?_
                refine then_n ?_
                refine cx_false HF rfl ?_
                refine wp_skip ?_
                refine then_n ?_
                refine wp_seq ?_
                refine wp_seq ?_
                refine wp_region_lit ?_
                refine sx_y HF HS (ld_ag ag38 rfl rfl) rfl rfl ?_; clear HF ac; intro ac HF
                refine sx_y HF HS (ld_ag ag38 rfl rfl) rfl rfl ?_; clear HF ac; intro ac HF
                refine sx_dec HF HS (Tryd.yl_eqH rfl rfl rfl) rfl rfl ?_ ?_ <;> clear HF ac <;> intro h19x2 ac HF
                · refine wpList_nil ?_
                  refine then_n ?_
                  refine cx_true HF rfl ?_
                  refine wp_seq ?_
                  refine wp_region_lit ?_
                  refine sx_y HF HS (ld_ag ag38 rfl rfl) rfl rfl ?_; clear HF ac; intro ac HF
                  refine sx_y HF HS (ld_ag ag38 rfl rfl) rfl rfl ?_; clear HF ac; intro ac HF
                  refine sx_y HF HS (Tryd.yl_neH rfl rfl (decide_eq_true (by exact hxy))) rfl rfl ?_; clear HF ac; intro ac HF
                  refine sx_y HF HS (yl_move rfl) rfl rfl ?_; clear HF ac; intro ac HF
                  refine sx_call HF Tryd.func28 (by kernel_rfl) (by kernel_rfl) rfl (awake8_any w (hL.below HS.kp) (Nat.le_trans h2 HS.kp.size)) rfl rfl ?_; clear HF ac
                  rintro _ w ⟨rfl, k1⟩
                  refine ⟨_, rfl, fun ac HF => ?_⟩
                  replace HS := HS.call k1
                  clear k1
                  refine sx_y HF HS (yl_pick (b := true) rfl rfl) rfl rfl ?_; clear HF ac; intro ac HF
                  refine sx_y HF HS (yl_assign rfl) rfl rfl ?_; clear HF ac; intro ac HF
                  refine wpList_nil ?_
                  refine then_n ?_
                  refine wp_ret ?_
                  refine then_r ?_
                  refine blk_r ?_
                  refine then_r ?_
                  refine then_r ?_
                  refine blk_r ?_
                  refine then_r ?_
                  exact rt1 rfl HF HS rfl ⟨rfl, HS.kp⟩
                · refine wpList_nil ?_
                  refine then_n ?_
                  refine cx_false HF rfl ?_
                  refine wp_skip ?_
                  refine then_n ?_
                  refine wp_seq ?_
                  refine dx_region 4 (by kernel_rfl) HS.drew (fun _ h => h.sub (List.Sublist.cons_cons _ (List.Sublist.cons_cons _ (List.Sublist.cons_cons _ (List.Sublist.cons _ (List.Sublist.cons _ (List.Sublist.cons_cons _ List.Sublist.slnil)))))) (List.Sublist.refl _)) ?_; clear HS; intro w HS
                  have HH := HS.sub (List.Sublist.cons_cons _ (List.Sublist.cons_cons _ (List.Sublist.cons_cons _ (List.Sublist.cons _ (List.Sublist.cons _ (List.Sublist.cons_cons _ List.Sublist.slnil)))))) (List.Sublist.refl _)
                  refine dx_k (i := 0) HF rfl (by kernel_rfl) (by kernel_rfl) (by kernel_rfl) (by kernel_rfl) (by kernel_rfl) (fun _ _ _ h => h) HH (ld_ag ag38 rfl rfl) rfl rfl ?_; clear HF ac; intro ac HF
                  refine dx_k (i := 1) HF rfl (by kernel_rfl) (by kernel_rfl) (by kernel_rfl) (by kernel_rfl) (by kernel_rfl) (fun _ _ _ h => h) HH (ld_ag ag38 rfl rfl) rfl rfl ?_; clear HF ac; intro ac HF
                  refine dx_one (i := 2) (by kernel_rfl) ?_
                  refine op_ef0 (i := 2) HF rfl rfl (ef_store HS sz38 rfl rfl rfl) ?_; clear HS; rintro _ w HS
                  replace HH := HS.sub (List.Sublist.cons_cons _ (List.Sublist.cons_cons _ (List.Sublist.cons_cons _ (List.Sublist.cons _ (List.Sublist.cons _ (List.Sublist.cons_cons _ List.Sublist.slnil)))))) (List.Sublist.refl _)
                  refine ⟨fun _ => HH, ?_⟩
                  refine dx_one (i := 3) (by kernel_rfl) ?_
                  refine op_ef0 (i := 3) HF rfl rfl (ef_store HS sz38 rfl rfl rfl) ?_; clear HS; rintro _ w HS
                  replace HH := HS.sub (List.Sublist.cons_cons _ (List.Sublist.cons_cons _ (List.Sublist.cons_cons _ (List.Sublist.cons _ (List.Sublist.cons _ (List.Sublist.cons_cons _ List.Sublist.slnil)))))) (List.Sublist.refl _)
                  refine ⟨fun _ => HH, ?_⟩
                  refine dx_done (by kernel_rfl) ?_
                  clear HH
                  refine then_n ?_
                  refine wp_region_lit ?_
                  refine sx_y HF HS (yl_move rfl) rfl rfl ?_; clear HF ac; intro ac HF
                  refine sx_y HF HS (yl_quoN (q := 2) rfl rfl (by decide) (by omega)) rfl rfl ?_; clear HF ac; intro ac HF
                  refine sx_y HF HS (yl_move rfl) rfl rfl ?_; clear HF ac; intro ac HF
                  refine sx_y HF HS (yl_quoN (q := 2) rfl rfl (by decide) (by omega)) rfl rfl ?_; clear HF ac; intro ac HF
                  refine sx_y HF HS (yl_assign rfl) rfl rfl ?_; clear HF ac; intro ac HF
                  refine sx_y HF HS (yl_assign rfl) rfl rfl ?_; clear HF ac; intro ac HF
                  refine wpList_nil ?_
                  refine blk_n ?_
                  refine then_n ?_
                  refine wp_region_lit ?_
                  have hmx := HS.row0.lim
                  refine sx_y HF HS (yl_add64 (r := ((k + 1 : Nat) : Int)) rfl rfl (by omega) (by omega)) rfl rfl ?_; clear HF ac; intro ac HF
                  refine sx_y HF HS (yl_move rfl) rfl rfl ?_; clear HF ac; intro ac HF
                  refine wpList_nil ?_
                  refine then_n ?_
                  refine ⟨_, ?_, k + 1, u / 2, z / 2, (nodeH x q), (nodeH y q), by omega, by omega, by omega, ?_, ?_, h19x2, rfl, HF.sub (by repeat (first | exact ag_nil | refine ag_cons rfl ?_)), HS.sub (List.Sublist.cons _ (List.Sublist.cons _ (List.Sublist.cons _ (List.Sublist.refl _)))) (List.Sublist.refl _)⟩
                  · omega
                  · rw [← hfx]
                  · rw [← hfy]
              · intro J
                refine dx_region 10 (by kernel_rfl) HS.drew (fun _ h => h) ?_; clear HS; intro w HS
                have HH := HS
                refine dx_k (i := 0) HF rfl (by kernel_rfl) (by kernel_rfl) (by kernel_rfl) (by kernel_rfl) (by kernel_rfl) (fun _ _ _ h => h) HH (ld_ag ag38 rfl rfl) rfl rfl ?_; clear HF ac; intro ac HF
                refine dx_k (i := 1) HF rfl (by kernel_rfl) (by kernel_rfl) (by kernel_rfl) (by kernel_rfl) (by kernel_rfl) (fun _ _ _ h => h) HH (ld_ag ag38 rfl rfl) rfl rfl ?_; clear HF ac; intro ac HF
                refine dx_k (i := 3) HF rfl (by kernel_rfl) (by kernel_rfl) (by kernel_rfl) (by kernel_rfl) (by kernel_rfl) (fun _ _ _ h => h) HH (ld_ag ag38 rfl rfl) rfl rfl ?_; clear HF ac; intro ac HF
                refine dx_k (i := 4) HF rfl (by kernel_rfl) (by kernel_rfl) (by kernel_rfl) (by kernel_rfl) (by kernel_rfl) (fun _ _ _ h => h) HH (ld_ag ag38 rfl rfl) rfl rfl ?_; clear HF ac; intro ac HF
                refine dx_three (i := 2) (j := 6) (j2 := 7) (by kernel_rfl) ?_ ?_ ?_
                · refine op_call (i := 2) HF rfl Tryd.func34 (by kernel_rfl) (by kernel_rfl) rfl (node_any x q w (hL.below HS.kp) (Nat.le_trans h2 HS.kp.size)) rfl rfl ?_; clear HF ac
                  rintro _ w ⟨rfl, k1⟩
                  refine ⟨_, rfl, fun ac HF => ?_⟩
                  replace HH := HH.call k1
                  replace HS := HS.call k1
                  clear k1
                  refine ⟨fun _ => HH, ?_⟩
                  refine dx_three (i := 5) (j := 6) (j2 := 7) (by kernel_rfl) ?_ ?_ ?_
                  · refine op_call (i := 5) HF rfl Tryd.func34 (by kernel_rfl) (by kernel_rfl) rfl (node_any y q w (hL.below HS.kp) (Nat.le_trans h2 HS.kp.size)) rfl rfl ?_; clear HF ac
                    rintro _ w ⟨rfl, k1⟩
                    refine ⟨_, rfl, fun ac HF => ?_⟩
                    replace HH := HH.call k1
                    replace HS := HS.call k1
                    clear k1
                    refine ⟨fun _ => HH, ?_⟩
                    refine dx_two (i := 6) (j := 7) (by kernel_rfl) ?_ ?_
                    · refine op_ef (i := 6) HF rfl rfl rfl (ef_alloc HS ze38) ?_; clear HF HS ac; rintro _ w ac ⟨g16, rfl, HS⟩ HF
                      replace HH := HS.sub (List.Sublist.cons _ (List.Sublist.refl _)) (List.Sublist.refl _)
                      refine ⟨fun _ => HH, ?_⟩
                      refine dx_one (i := 7) (by kernel_rfl) ?_
                      refine op_ef (i := 7) HF rfl rfl rfl (ef_alloc HS ze38) ?_; clear HF HS ac; rintro _ w ac ⟨g17, rfl, HS⟩ HF
                      replace HH := HS.sub (List.Sublist.cons _ (List.Sublist.cons _ (List.Sublist.refl _))) (List.Sublist.refl _)
                      refine ⟨fun _ => HH, ?_⟩
                      refine dx_one (i := 8) (by kernel_rfl) ?_
                      refine op_ef0 (i := 8) HF rfl rfl (ef_store HS sz38 rfl rfl rfl) ?_; clear HS; rintro _ w HS
                      replace HH := HS.sub (List.Sublist.cons _ (List.Sublist.cons _ (List.Sublist.refl _))) (List.Sublist.refl _)
                      refine ⟨fun _ => HH, ?_⟩
                      refine dx_one (i := 9) (by kernel_rfl) ?_
                      refine op_ef0 (i := 9) HF rfl rfl (ef_store HS sz38 rfl rfl rfl) ?_; clear HS; rintro _ w HS
                      replace HH := HS.sub (List.Sublist.cons _ (List.Sublist.cons _ (List.Sublist.refl _))) (List.Sublist.refl _)
                      refine ⟨fun _ => HH, ?_⟩
                      refine dx_done (by kernel_rfl) ?_
                      clear HH
                      exact J _ _ ⟨_, _, HF.sub (by repeat (first | exact ag_nil | refine ag_cons rfl ?_)), by first | exact HS | exact HS.swap | exact HS.rot | exact HS.rot.rot | exact HS.swap.rot | exact HS.rot.swap⟩
                    · refine op_ef (i := 7) HF rfl rfl rfl (ef_alloc HS ze38) ?_; clear HF HS ac; rintro _ w ac ⟨g17, rfl, HS⟩ HF
                      replace HH := HS.sub (List.Sublist.cons _ (List.Sublist.refl _)) (List.Sublist.refl _)
                      refine ⟨fun _ => HH, ?_⟩
                      refine dx_one (i := 6) (by kernel_rfl) ?_
                      refine op_ef (i := 6) HF rfl rfl rfl (ef_alloc HS ze38) ?_; clear HF HS ac; rintro _ w ac ⟨g16, rfl, HS⟩ HF
                      replace HH := HS.sub (List.Sublist.cons _ (List.Sublist.cons _ (List.Sublist.refl _))) (List.Sublist.refl _)
                      refine ⟨fun _ => HH, ?_⟩
                      refine dx_one (i := 8) (by kernel_rfl) ?_
                      refine op_ef0 (i := 8) HF rfl rfl (ef_store HS sz38 rfl rfl rfl) ?_; clear HS; rintro _ w HS
                      replace HH := HS.sub (List.Sublist.cons _ (List.Sublist.cons _ (List.Sublist.refl _))) (List.Sublist.refl _)
                      refine ⟨fun _ => HH, ?_⟩
                      refine dx_one (i := 9) (by kernel_rfl) ?_
                      refine op_ef0 (i := 9) HF rfl rfl (ef_store HS sz38 rfl rfl rfl) ?_; clear HS; rintro _ w HS
                      replace HH := HS.sub (List.Sublist.cons _ (List.Sublist.cons _ (List.Sublist.refl _))) (List.Sublist.refl _)
                      refine ⟨fun _ => HH, ?_⟩
                      refine dx_done (by kernel_rfl) ?_
                      clear HH
                      exact J _ _ ⟨_, _, HF.sub (by repeat (first | exact ag_nil | refine ag_cons rfl ?_)), by first | exact HS | exact HS.swap | exact HS.rot | exact HS.rot.rot | exact HS.swap.rot | exact HS.rot.swap⟩
                  · refine op_ef (i := 6) HF rfl rfl rfl (ef_alloc HS ze38) ?_; clear HF HS ac; rintro _ w ac ⟨g16, rfl, HS⟩ HF
                    replace HH := HS.sub (List.Sublist.cons _ (List.Sublist.refl _)) (List.Sublist.refl _)
                    refine ⟨fun _ => HH, ?_⟩
                    refine dx_two (i := 5) (j := 7) (by kernel_rfl) ?_ ?_
                    · refine op_call (i := 5) HF rfl Tryd.func34 (by kernel_rfl) (by kernel_rfl) rfl (node_any y q w (hL.below HS.kp) (Nat.le_trans h2 HS.kp.size)) rfl rfl ?_; clear HF ac
                      rintro _ w ⟨rfl, k1⟩
                      refine ⟨_, rfl, fun ac HF => ?_⟩
                      replace HH := HH.call k1
                      replace HS := HS.call k1
                      clear k1
                      refine ⟨fun _ => HH, ?_⟩
                      refine dx_one (i := 7) (by kernel_rfl) ?_
                      refine op_ef (i := 7) HF rfl rfl rfl (ef_alloc HS ze38) ?_; clear HF HS ac; rintro _ w ac ⟨g17, rfl, HS⟩ HF
                      replace HH := HS.sub (List.Sublist.cons _ (List.Sublist.cons _ (List.Sublist.refl _))) (List.Sublist.refl _)
                      refine ⟨fun _ => HH, ?_⟩
                      refine dx_one (i := 8) (by kernel_rfl) ?_
                      refine op_ef0 (i := 8) HF rfl rfl (ef_store HS sz38 rfl rfl rfl) ?_; clear HS; rintro _ w HS
                      replace HH := HS.sub (List.Sublist.cons _ (List.Sublist.cons _ (List.Sublist.refl _))) (List.Sublist.refl _)
                      refine ⟨fun _ => HH, ?_⟩
                      refine dx_one (i := 9) (by kernel_rfl) ?_
                      refine op_ef0 (i := 9) HF rfl rfl (ef_store HS sz38 rfl rfl rfl) ?_; clear HS; rintro _ w HS
                      replace HH := HS.sub (List.Sublist.cons _ (List.Sublist.cons _ (List.Sublist.refl _))) (List.Sublist.refl _)
                      refine ⟨fun _ => HH, ?_⟩
                      refine dx_done (by kernel_rfl) ?_
                      clear HH
                      exact J _ _ ⟨_, _, HF.sub (by repeat (first | exact ag_nil | refine ag_cons rfl ?_)), by first | exact HS | exact HS.swap | exact HS.rot | exact HS.rot.rot | exact HS.swap.rot | exact HS.rot.swap⟩
                    · refine op_ef (i := 7) HF rfl rfl rfl (ef_alloc HS ze38) ?_; clear HF HS ac; rintro _ w ac ⟨g17, rfl, HS⟩ HF
                      replace HH := HS.sub (List.Sublist.cons _ (List.Sublist.cons _ (List.Sublist.refl _))) (List.Sublist.refl _)
                      refine ⟨fun _ => HH, ?_⟩
                      refine dx_one (i := 5) (by kernel_rfl) ?_
                      refine op_call (i := 5) HF rfl Tryd.func34 (by kernel_rfl) (by kernel_rfl) rfl (node_any y q w (hL.below HS.kp) (Nat.le_trans h2 HS.kp.size)) rfl rfl ?_; clear HF ac
                      rintro _ w ⟨rfl, k1⟩
                      refine ⟨_, rfl, fun ac HF => ?_⟩
                      replace HH := HH.call k1
                      replace HS := HS.call k1
                      clear k1
                      refine ⟨fun _ => HH, ?_⟩
                      refine dx_one (i := 8) (by kernel_rfl) ?_
                      refine op_ef0 (i := 8) HF rfl rfl (ef_store HS sz38 rfl rfl rfl) ?_; clear HS; rintro _ w HS
                      replace HH := HS.sub (List.Sublist.cons _ (List.Sublist.cons _ (List.Sublist.refl _))) (List.Sublist.refl _)
                      refine ⟨fun _ => HH, ?_⟩
                      refine dx_one (i := 9) (by kernel_rfl) ?_
                      refine op_ef0 (i := 9) HF rfl rfl (ef_store HS sz38 rfl rfl rfl) ?_; clear HS; rintro _ w HS
                      replace HH := HS.sub (List.Sublist.cons _ (List.Sublist.cons _ (List.Sublist.refl _))) (List.Sublist.refl _)
                      refine ⟨fun _ => HH, ?_⟩
                      refine dx_done (by kernel_rfl) ?_
                      clear HH
                      exact J _ _ ⟨_, _, HF.sub (by repeat (first | exact ag_nil | refine ag_cons rfl ?_)), by first | exact HS | exact HS.swap | exact HS.rot | exact HS.rot.rot | exact HS.swap.rot | exact HS.rot.swap⟩
                  · refine op_ef (i := 7) HF rfl rfl rfl (ef_alloc HS ze38) ?_; clear HF HS ac; rintro _ w ac ⟨g17, rfl, HS⟩ HF
                    replace HH := HS.sub (List.Sublist.cons _ (List.Sublist.refl _)) (List.Sublist.refl _)
                    refine ⟨fun _ => HH, ?_⟩
                    refine dx_two (i := 5) (j := 6) (by kernel_rfl) ?_ ?_
                    · refine op_call (i := 5) HF rfl Tryd.func34 (by kernel_rfl) (by kernel_rfl) rfl (node_any y q w (hL.below HS.kp) (Nat.le_trans h2 HS.kp.size)) rfl rfl ?_; clear HF ac
                      rintro _ w ⟨rfl, k1⟩
                      refine ⟨_, rfl, fun ac HF => ?_⟩
                      replace HH := HH.call k1
                      replace HS := HS.call k1
                      clear k1
                      refine ⟨fun _ => HH, ?_⟩
                      refine dx_one (i := 6) (by kernel_rfl) ?_
                      refine op_ef (i := 6) HF rfl rfl rfl (ef_alloc HS ze38) ?_; clear HF HS ac; rintro _ w ac ⟨g16, rfl, HS⟩ HF
                      replace HH := HS.sub (List.Sublist.cons _ (List.Sublist.cons _ (List.Sublist.refl _))) (List.Sublist.refl _)
                      refine ⟨fun _ => HH, ?_⟩
                      refine dx_one (i := 8) (by kernel_rfl) ?_
                      refine op_ef0 (i := 8) HF rfl rfl (ef_store HS sz38 rfl rfl rfl) ?_; clear HS; rintro _ w HS
                      replace HH := HS.sub (List.Sublist.cons _ (List.Sublist.cons _ (List.Sublist.refl _))) (List.Sublist.refl _)
                      refine ⟨fun _ => HH, ?_⟩
                      refine dx_one (i := 9) (by kernel_rfl) ?_
                      refine op_ef0 (i := 9) HF rfl rfl (ef_store HS sz38 rfl rfl rfl) ?_; clear HS; rintro _ w HS
                      replace HH := HS.sub (List.Sublist.cons _ (List.Sublist.cons _ (List.Sublist.refl _))) (List.Sublist.refl _)
                      refine ⟨fun _ => HH, ?_⟩
                      refine dx_done (by kernel_rfl) ?_
                      clear HH
                      exact J _ _ ⟨_, _, HF.sub (by repeat (first | exact ag_nil | refine ag_cons rfl ?_)), by first | exact HS | exact HS.swap | exact HS.rot | exact HS.rot.rot | exact HS.swap.rot | exact HS.rot.swap⟩
                    · refine op_ef (i := 6) HF rfl rfl rfl (ef_alloc HS ze38) ?_; clear HF HS ac; rintro _ w ac ⟨g16, rfl, HS⟩ HF
                      replace HH := HS.sub (List.Sublist.cons _ (List.Sublist.cons _ (List.Sublist.refl _))) (List.Sublist.refl _)
                      refine ⟨fun _ => HH, ?_⟩
                      refine dx_one (i := 5) (by kernel_rfl) ?_
                      refine op_call (i := 5) HF rfl Tryd.func34 (by kernel_rfl) (by kernel_rfl) rfl (node_any y q w (hL.below HS.kp) (Nat.le_trans h2 HS.kp.size)) rfl rfl ?_; clear HF ac
                      rintro _ w ⟨rfl, k1⟩
                      refine ⟨_, rfl, fun ac HF => ?_⟩
                      replace HH := HH.call k1
                      replace HS := HS.call k1
                      clear k1
                      refine ⟨fun _ => HH, ?_⟩
                      refine dx_one (i := 8) (by kernel_rfl) ?_
                      refine op_ef0 (i := 8) HF rfl rfl (ef_store HS sz38 rfl rfl rfl) ?_; clear HS; rintro _ w HS
                      replace HH := HS.sub (List.Sublist.cons _ (List.Sublist.cons _ (List.Sublist.refl _))) (List.Sublist.refl _)
                      refine ⟨fun _ => HH, ?_⟩
                      refine dx_one (i := 9) (by kernel_rfl) ?_
                      refine op_ef0 (i := 9) HF rfl rfl (ef_store HS sz38 rfl rfl rfl) ?_; clear HS; rintro _ w HS
                      replace HH := HS.sub (List.Sublist.cons _ (List.Sublist.cons _ (List.Sublist.refl _))) (List.Sublist.refl _)
                      refine ⟨fun _ => HH, ?_⟩
                      refine dx_done (by kernel_rfl) ?_
                      clear HH
                      exact J _ _ ⟨_, _, HF.sub (by repeat (first | exact ag_nil | refine ag_cons rfl ?_)), by first | exact HS | exact HS.swap | exact HS.rot | exact HS.rot.rot | exact HS.swap.rot | exact HS.rot.swap⟩
                · refine op_ef (i := 6) HF rfl rfl rfl (ef_alloc HS ze38) ?_; clear HF HS ac; rintro _ w ac ⟨g16, rfl, HS⟩ HF
                  replace HH := HS.sub (List.Sublist.cons _ (List.Sublist.refl _)) (List.Sublist.refl _)
                  refine ⟨fun _ => HH, ?_⟩
                  refine dx_two (i := 2) (j := 7) (by kernel_rfl) ?_ ?_
                  · refine op_call (i := 2) HF rfl Tryd.func34 (by kernel_rfl) (by kernel_rfl) rfl (node_any x q w (hL.below HS.kp) (Nat.le_trans h2 HS.kp.size)) rfl rfl ?_; clear HF ac
                    rintro _ w ⟨rfl, k1⟩
                    refine ⟨_, rfl, fun ac HF => ?_⟩
                    replace HH := HH.call k1
                    replace HS := HS.call k1
                    clear k1
                    refine ⟨fun _ => HH, ?_⟩
                    refine dx_two (i := 5) (j := 7) (by kernel_rfl) ?_ ?_
                    · refine op_call (i := 5) HF rfl Tryd.func34 (by kernel_rfl) (by kernel_rfl) rfl (node_any y q w (hL.below HS.kp) (Nat.le_trans h2 HS.kp.size)) rfl rfl ?_; clear HF ac
                      rintro _ w ⟨rfl, k1⟩
                      refine ⟨_, rfl, fun ac HF => ?_⟩
                      replace HH := HH.call k1
                      replace HS := HS.call k1
                      clear k1
                      refine ⟨fun _ => HH, ?_⟩
                      refine dx_one (i := 7) (by kernel_rfl) ?_
                      refine op_ef (i := 7) HF rfl rfl rfl (ef_alloc HS ze38) ?_; clear HF HS ac; rintro _ w ac ⟨g17, rfl, HS⟩ HF
                      replace HH := HS.sub (List.Sublist.cons _ (List.Sublist.cons _ (List.Sublist.refl _))) (List.Sublist.refl _)
                      refine ⟨fun _ => HH, ?_⟩
                      refine dx_one (i := 8) (by kernel_rfl) ?_
                      refine op_ef0 (i := 8) HF rfl rfl (ef_store HS sz38 rfl rfl rfl) ?_; clear HS; rintro _ w HS
                      replace HH := HS.sub (List.Sublist.cons _ (List.Sublist.cons _ (List.Sublist.refl _))) (List.Sublist.refl _)
                      refine ⟨fun _ => HH, ?_⟩
                      refine dx_one (i := 9) (by kernel_rfl) ?_
                      refine op_ef0 (i := 9) HF rfl rfl (ef_store HS sz38 rfl rfl rfl) ?_; clear HS; rintro _ w HS
                      replace HH := HS.sub (List.Sublist.cons _ (List.Sublist.cons _ (List.Sublist.refl _))) (List.Sublist.refl _)
                      refine ⟨fun _ => HH, ?_⟩
                      refine dx_done (by kernel_rfl) ?_
                      clear HH
                      exact J _ _ ⟨_, _, HF.sub (by repeat (first | exact ag_nil | refine ag_cons rfl ?_)), by first | exact HS | exact HS.swap | exact HS.rot | exact HS.rot.rot | exact HS.swap.rot | exact HS.rot.swap⟩
                    · refine op_ef (i := 7) HF rfl rfl rfl (ef_alloc HS ze38) ?_; clear HF HS ac; rintro _ w ac ⟨g17, rfl, HS⟩ HF
                      replace HH := HS.sub (List.Sublist.cons _ (List.Sublist.cons _ (List.Sublist.refl _))) (List.Sublist.refl _)
                      refine ⟨fun _ => HH, ?_⟩
                      refine dx_one (i := 5) (by kernel_rfl) ?_
                      refine op_call (i := 5) HF rfl Tryd.func34 (by kernel_rfl) (by kernel_rfl) rfl (node_any y q w (hL.below HS.kp) (Nat.le_trans h2 HS.kp.size)) rfl rfl ?_; clear HF ac
                      rintro _ w ⟨rfl, k1⟩
                      refine ⟨_, rfl, fun ac HF => ?_⟩
                      replace HH := HH.call k1
                      replace HS := HS.call k1
                      clear k1
                      refine ⟨fun _ => HH, ?_⟩
                      refine dx_one (i := 8) (by kernel_rfl) ?_
                      refine op_ef0 (i := 8) HF rfl rfl (ef_store HS sz38 rfl rfl rfl) ?_; clear HS; rintro _ w HS
                      replace HH := HS.sub (List.Sublist.cons _ (List.Sublist.cons _ (List.Sublist.refl _))) (List.Sublist.refl _)
                      refine ⟨fun _ => HH, ?_⟩
                      refine dx_one (i := 9) (by kernel_rfl) ?_
                      refine op_ef0 (i := 9) HF rfl rfl (ef_store HS sz38 rfl rfl rfl) ?_; clear HS; rintro _ w HS
                      replace HH := HS.sub (List.Sublist.cons _ (List.Sublist.cons _ (List.Sublist.refl _))) (List.Sublist.refl _)
                      refine ⟨fun _ => HH, ?_⟩
                      refine dx_done (by kernel_rfl) ?_
                      clear HH
                      exact J _ _ ⟨_, _, HF.sub (by repeat (first | exact ag_nil | refine ag_cons rfl ?_)), by first | exact HS | exact HS.swap | exact HS.rot | exact HS.rot.rot | exact HS.swap.rot | exact HS.rot.swap⟩
                  · refine op_ef (i := 7) HF rfl rfl rfl (ef_alloc HS ze38) ?_; clear HF HS ac; rintro _ w ac ⟨g17, rfl, HS⟩ HF
                    replace HH := HS.sub (List.Sublist.cons _ (List.Sublist.cons _ (List.Sublist.refl _))) (List.Sublist.refl _)
                    refine ⟨fun _ => HH, ?_⟩
                    refine dx_one (i := 2) (by kernel_rfl) ?_
                    refine op_call (i := 2) HF rfl Tryd.func34 (by kernel_rfl) (by kernel_rfl) rfl (node_any x q w (hL.below HS.kp) (Nat.le_trans h2 HS.kp.size)) rfl rfl ?_; clear HF ac
                    rintro _ w ⟨rfl, k1⟩
                    refine ⟨_, rfl, fun ac HF => ?_⟩
                    replace HH := HH.call k1
                    replace HS := HS.call k1
                    clear k1
                    refine ⟨fun _ => HH, ?_⟩
                    refine dx_one (i := 5) (by kernel_rfl) ?_
                    refine op_call (i := 5) HF rfl Tryd.func34 (by kernel_rfl) (by kernel_rfl) rfl (node_any y q w (hL.below HS.kp) (Nat.le_trans h2 HS.kp.size)) rfl rfl ?_; clear HF ac
                    rintro _ w ⟨rfl, k1⟩
                    refine ⟨_, rfl, fun ac HF => ?_⟩
                    replace HH := HH.call k1
                    replace HS := HS.call k1
                    clear k1
                    refine ⟨fun _ => HH, ?_⟩
                    refine dx_one (i := 8) (by kernel_rfl) ?_
                    refine op_ef0 (i := 8) HF rfl rfl (ef_store HS sz38 rfl rfl rfl) ?_; clear HS; rintro _ w HS
                    replace HH := HS.sub (List.Sublist.cons _ (List.Sublist.cons _ (List.Sublist.refl _))) (List.Sublist.refl _)
                    refine ⟨fun _ => HH, ?_⟩
                    refine dx_one (i := 9) (by kernel_rfl) ?_
                    refine op_ef0 (i := 9) HF rfl rfl (ef_store HS sz38 rfl rfl rfl) ?_; clear HS; rintro _ w HS
                    replace HH := HS.sub (List.Sublist.cons _ (List.Sublist.cons _ (List.Sublist.refl _))) (List.Sublist.refl _)
                    refine ⟨fun _ => HH, ?_⟩
                    refine dx_done (by kernel_rfl) ?_
                    clear HH
                    exact J _ _ ⟨_, _, HF.sub (by repeat (first | exact ag_nil | refine ag_cons rfl ?_)), by first | exact HS | exact HS.swap | exact HS.rot | exact HS.rot.rot | exact HS.swap.rot | exact HS.rot.swap⟩
                · refine op_ef (i := 7) HF rfl rfl rfl (ef_alloc HS ze38) ?_; clear HF HS ac; rintro _ w ac ⟨g17, rfl, HS⟩ HF
                  replace HH := HS.sub (List.Sublist.cons _ (List.Sublist.refl _)) (List.Sublist.refl _)
                  refine ⟨fun _ => HH, ?_⟩
                  refine dx_two (i := 2) (j := 6) (by kernel_rfl) ?_ ?_
                  · refine op_call (i := 2) HF rfl Tryd.func34 (by kernel_rfl) (by kernel_rfl) rfl (node_any x q w (hL.below HS.kp) (Nat.le_trans h2 HS.kp.size)) rfl rfl ?_; clear HF ac
                    rintro _ w ⟨rfl, k1⟩
                    refine ⟨_, rfl, fun ac HF => ?_⟩
                    replace HH := HH.call k1
                    replace HS := HS.call k1
                    clear k1
                    refine ⟨fun _ => HH, ?_⟩
                    refine dx_two (i := 5) (j := 6) (by kernel_rfl) ?_ ?_
                    · refine op_call (i := 5) HF rfl Tryd.func34 (by kernel_rfl) (by kernel_rfl) rfl (node_any y q w (hL.below HS.kp) (Nat.le_trans h2 HS.kp.size)) rfl rfl ?_; clear HF ac
                      rintro _ w ⟨rfl, k1⟩
                      refine ⟨_, rfl, fun ac HF => ?_⟩
                      replace HH := HH.call k1
                      replace HS := HS.call k1
                      clear k1
                      refine ⟨fun _ => HH, ?_⟩
                      refine dx_one (i := 6) (by kernel_rfl) ?_
                      refine op_ef (i := 6) HF rfl rfl rfl (ef_alloc HS ze38) ?_; clear HF HS ac; rintro _ w ac ⟨g16, rfl, HS⟩ HF
                      replace HH := HS.sub (List.Sublist.cons _ (List.Sublist.cons _ (List.Sublist.refl _))) (List.Sublist.refl _)
                      refine ⟨fun _ => HH, ?_⟩
                      refine dx_one (i := 8) (by kernel_rfl) ?_
                      refine op_ef0 (i := 8) HF rfl rfl (ef_store HS sz38 rfl rfl rfl) ?_; clear HS; rintro _ w HS
                      replace HH := HS.sub (List.Sublist.cons _ (List.Sublist.cons _ (List.Sublist.refl _))) (List.Sublist.refl _)
                      refine ⟨fun _ => HH, ?_⟩
                      refine dx_one (i := 9) (by kernel_rfl) ?_
                      refine op_ef0 (i := 9) HF rfl rfl (ef_store HS sz38 rfl rfl rfl) ?_; clear HS; rintro _ w HS
                      replace HH := HS.sub (List.Sublist.cons _ (List.Sublist.cons _ (List.Sublist.refl _))) (List.Sublist.refl _)
                      refine ⟨fun _ => HH, ?_⟩
                      refine dx_done (by kernel_rfl) ?_
                      clear HH
                      exact J _ _ ⟨_, _, HF.sub (by repeat (first | exact ag_nil | refine ag_cons rfl ?_)), by first | exact HS | exact HS.swap | exact HS.rot | exact HS.rot.rot | exact HS.swap.rot | exact HS.rot.swap⟩
                    · refine op_ef (i := 6) HF rfl rfl rfl (ef_alloc HS ze38) ?_; clear HF HS ac; rintro _ w ac ⟨g16, rfl, HS⟩ HF
                      replace HH := HS.sub (List.Sublist.cons _ (List.Sublist.cons _ (List.Sublist.refl _))) (List.Sublist.refl _)
                      refine ⟨fun _ => HH, ?_⟩
                      refine dx_one (i := 5) (by kernel_rfl) ?_
                      refine op_call (i := 5) HF rfl Tryd.func34 (by kernel_rfl) (by kernel_rfl) rfl (node_any y q w (hL.below HS.kp) (Nat.le_trans h2 HS.kp.size)) rfl rfl ?_; clear HF ac
                      rintro _ w ⟨rfl, k1⟩
                      refine ⟨_, rfl, fun ac HF => ?_⟩
                      replace HH := HH.call k1
                      replace HS := HS.call k1
                      clear k1
                      refine ⟨fun _ => HH, ?_⟩
                      refine dx_one (i := 8) (by kernel_rfl) ?_
                      refine op_ef0 (i := 8) HF rfl rfl (ef_store HS sz38 rfl rfl rfl) ?_; clear HS; rintro _ w HS
                      replace HH := HS.sub (List.Sublist.cons _ (List.Sublist.cons _ (List.Sublist.refl _))) (List.Sublist.refl _)
                      refine ⟨fun _ => HH, ?_⟩
                      refine dx_one (i := 9) (by kernel_rfl) ?_
                      refine op_ef0 (i := 9) HF rfl rfl (ef_store HS sz38 rfl rfl rfl) ?_; clear HS; rintro _ w HS
                      replace HH := HS.sub (List.Sublist.cons _ (List.Sublist.cons _ (List.Sublist.refl _))) (List.Sublist.refl _)
                      refine ⟨fun _ => HH, ?_⟩
                      refine dx_done (by kernel_rfl) ?_
                      clear HH
                      exact J _ _ ⟨_, _, HF.sub (by repeat (first | exact ag_nil | refine ag_cons rfl ?_)), by first | exact HS | exact HS.swap | exact HS.rot | exact HS.rot.rot | exact HS.swap.rot | exact HS.rot.swap⟩
                  · refine op_ef (i := 6) HF rfl rfl rfl (ef_alloc HS ze38) ?_; clear HF HS ac; rintro _ w ac ⟨g16, rfl, HS⟩ HF
                    replace HH := HS.sub (List.Sublist.cons _ (List.Sublist.cons _ (List.Sublist.refl _))) (List.Sublist.refl _)
                    refine ⟨fun _ => HH, ?_⟩
                    refine dx_one (i := 2) (by kernel_rfl) ?_
                    refine op_call (i := 2) HF rfl Tryd.func34 (by kernel_rfl) (by kernel_rfl) rfl (node_any x q w (hL.below HS.kp) (Nat.le_trans h2 HS.kp.size)) rfl rfl ?_; clear HF ac
                    rintro _ w ⟨rfl, k1⟩
                    refine ⟨_, rfl, fun ac HF => ?_⟩
                    replace HH := HH.call k1
                    replace HS := HS.call k1
                    clear k1
                    refine ⟨fun _ => HH, ?_⟩
                    refine dx_one (i := 5) (by kernel_rfl) ?_
                    refine op_call (i := 5) HF rfl Tryd.func34 (by kernel_rfl) (by kernel_rfl) rfl (node_any y q w (hL.below HS.kp) (Nat.le_trans h2 HS.kp.size)) rfl rfl ?_; clear HF ac
                    rintro _ w ⟨rfl, k1⟩
                    refine ⟨_, rfl, fun ac HF => ?_⟩
                    replace HH := HH.call k1
                    replace HS := HS.call k1
                    clear k1
                    refine ⟨fun _ => HH, ?_⟩
                    refine dx_one (i := 8) (by kernel_rfl) ?_
                    refine op_ef0 (i := 8) HF rfl rfl (ef_store HS sz38 rfl rfl rfl) ?_; clear HS; rintro _ w HS
                    replace HH := HS.sub (List.Sublist.cons _ (List.Sublist.cons _ (List.Sublist.refl _))) (List.Sublist.refl _)
                    refine ⟨fun _ => HH, ?_⟩
                    refine dx_one (i := 9) (by kernel_rfl) ?_
                    refine op_ef0 (i := 9) HF rfl rfl (ef_store HS sz38 rfl rfl rfl) ?_; clear HS; rintro _ w HS
                    replace HH := HS.sub (List.Sublist.cons _ (List.Sublist.cons _ (List.Sublist.refl _))) (List.Sublist.refl _)
                    refine ⟨fun _ => HH, ?_⟩
                    refine dx_done (by kernel_rfl) ?_
                    clear HH
                    exact J _ _ ⟨_, _, HF.sub (by repeat (first | exact ag_nil | refine ag_cons rfl ?_)), by first | exact HS | exact HS.swap | exact HS.rot | exact HS.rot.rot | exact HS.swap.rot | exact HS.rot.swap⟩
      · exfalso
        rw [List.drop_eq_nil_of_le (by omega), leadF] at hfx hfy
        by_cases hz0 : z = 0
        · rw [if_pos hz0] at hfx hfy
          exact hxy ((Option.some.inj hfx).trans (Option.some.inj hfy).symm)
        · rw [if_neg hz0] at hfx; cases hfx
  · intro J
    refine dx_region 9 (by kernel_rfl) HS.drew (fun _ h => h) ?_; clear HS; intro w HS
    have HH := HS
    refine dx_p (i := 0) HF rfl (by kernel_rfl) (by kernel_rfl) (by kernel_rfl) (by decide) (fun _ _ _ h => h) (fun _ => HH) (yl_move rfl) rfl rfl ?_; clear HF ac; intro ac HF
    refine dx_p (i := 1) HF rfl (by kernel_rfl) (by kernel_rfl) (by kernel_rfl) (by decide) (fun _ _ _ h => h) (fun _ => HH) (yl_move rfl) rfl rfl ?_; clear HF ac; intro ac HF
    refine dx_p (i := 2) HF rfl (by kernel_rfl) (by kernel_rfl) (by kernel_rfl) (by decide) (fun _ _ _ h => h) (fun _ => HH) (ix_sl Tryd.underlying25 sz38 rfl rfl (by omega) hr.nil0) rfl rfl ?_; clear HF ac; intro ac HF
    refine dx_k (i := 3) HF rfl (by kernel_rfl) (by kernel_rfl) (by kernel_rfl) (by kernel_rfl) (by kernel_rfl) (fun _ _ _ h => h) HH (ld_elH ag38 rfl hx (fun w h => hr.below h.kp)) rfl rfl ?_; clear HF ac; intro ac HF
    refine dx_k (i := 4) HF rfl (by kernel_rfl) (by kernel_rfl) (by kernel_rfl) (by kernel_rfl) (by kernel_rfl) (fun _ _ _ h => h) HH (ld_ag ag38 rfl rfl) rfl rfl ?_; clear HF ac; intro ac HF
    refine dx_two (i := 5) (j := 6) (by kernel_rfl) ?_ ?_
    · refine op_ef (i := 5) HF rfl rfl rfl (ef_alloc HS ze38) ?_; clear HF HS ac; rintro _ w ac ⟨g9, rfl, HS⟩ HF
      replace HH := HS.sub (List.Sublist.cons _ (List.Sublist.refl _)) (List.Sublist.refl _)
      refine ⟨fun _ => HH, ?_⟩
      refine dx_one (i := 6) (by kernel_rfl) ?_
      refine op_ef (i := 6) HF rfl rfl rfl (ef_alloc HS ze38) ?_; clear HF HS ac; rintro _ w ac ⟨g10, rfl, HS⟩ HF
      replace HH := HS.sub (List.Sublist.cons _ (List.Sublist.cons _ (List.Sublist.refl _))) (List.Sublist.refl _)
      refine ⟨fun _ => HH, ?_⟩
      refine dx_one (i := 7) (by kernel_rfl) ?_
      refine op_ef0 (i := 7) HF rfl rfl (ef_store HS sz38 rfl rfl rfl) ?_; clear HS; rintro _ w HS
      replace HH := HS.sub (List.Sublist.cons _ (List.Sublist.cons _ (List.Sublist.refl _))) (List.Sublist.refl _)
      refine ⟨fun _ => HH, ?_⟩
      refine dx_one (i := 8) (by kernel_rfl) ?_
      refine op_ef0 (i := 8) HF rfl rfl (ef_store HS sz38 rfl rfl rfl) ?_; clear HS; rintro _ w HS
      replace HH := HS.sub (List.Sublist.cons _ (List.Sublist.cons _ (List.Sublist.refl _))) (List.Sublist.refl _)
      refine ⟨fun _ => HH, ?_⟩
      refine dx_done (by kernel_rfl) ?_
      clear HH
      exact J _ _ ⟨_, _, HF.sub (by repeat (first | exact ag_nil | refine ag_cons rfl ?_)), by first | exact HS | exact HS.swap | exact HS.rot | exact HS.rot.rot | exact HS.swap.rot | exact HS.rot.swap⟩
    · refine op_ef (i := 6) HF rfl rfl rfl (ef_alloc HS ze38) ?_; clear HF HS ac; rintro _ w ac ⟨g10, rfl, HS⟩ HF
      replace HH := HS.sub (List.Sublist.cons _ (List.Sublist.refl _)) (List.Sublist.refl _)
      refine ⟨fun _ => HH, ?_⟩
      refine dx_one (i := 5) (by kernel_rfl) ?_
      refine op_ef (i := 5) HF rfl rfl rfl (ef_alloc HS ze38) ?_; clear HF HS ac; rintro _ w ac ⟨g9, rfl, HS⟩ HF
      replace HH := HS.sub (List.Sublist.cons _ (List.Sublist.cons _ (List.Sublist.refl _))) (List.Sublist.refl _)
      refine ⟨fun _ => HH, ?_⟩
      refine dx_one (i := 7) (by kernel_rfl) ?_
      refine op_ef0 (i := 7) HF rfl rfl (ef_store HS sz38 rfl rfl rfl) ?_; clear HS; rintro _ w HS
      replace HH := HS.sub (List.Sublist.cons _ (List.Sublist.cons _ (List.Sublist.refl _))) (List.Sublist.refl _)
      refine ⟨fun _ => HH, ?_⟩
      refine dx_one (i := 8) (by kernel_rfl) ?_
      refine op_ef0 (i := 8) HF rfl rfl (ef_store HS sz38 rfl rfl rfl) ?_; clear HS; rintro _ w HS
      replace HH := HS.sub (List.Sublist.cons _ (List.Sublist.cons _ (List.Sublist.refl _))) (List.Sublist.refl _)
      refine ⟨fun _ => HH, ?_⟩
      refine dx_done (by kernel_rfl) ?_
      clear HH
      exact J _ _ ⟨_, _, HF.sub (by repeat (first | exact ag_nil | refine ag_cons rfl ?_)), by first | exact HS | exact HS.swap | exact HS.rot | exact HS.rot.rot | exact HS.swap.rot | exact HS.rot.swap⟩

theorem walk (l : List Hsh) (a : Option Addr) (c : Nat) (i : Int) (other : Hsh) (w : World) (hr : Rd w a l.length c 32 (hsc l)) (hL : Laid w) (h2 : 2 ≤ w.heap.size) :
    Calls Tryd.prog 9 #[.slice a l.length c, .int .i64 i, hv other] w fun e w' => e = .returned (.bool true) ∧ Kp [] w w' := by
  by_cases hl : 70 < l.length
  · exact walk_a l a c i other w hr hl hL h2
  · by_cases hi : i < 0
    · exact walk_b l a c i other w hr (by omega) hi hL h2
    · by_cases hi2 : (l.length : Int) ≤ i
      · exact walk_c l a c i other w hr (by omega) hi hi2 hL h2
      · obtain ⟨k, rfl⟩ : ∃ k : Nat, i = k := ⟨i.toNat, by omega⟩
        have hk : k < l.length := by omega
        obtain ⟨x, hx⟩ : ∃ x, l[k]? = some x := ⟨_, List.getElem?_eq_getElem hk⟩
        by_cases hne : other = x
        · exact walk_d l a c k other w hr (by omega) hk (hne ▸ hx) hL h2
        · cases hq : leadF k (l.length - 1) other (pathH l k) with
          | none => exact walk_e l a c k other w hr (by omega) hk x hx hne 22 (by decide) (by rw [hq]; rfl) hL h2
          | some r =>
            by_cases hrt : r = rootH l
            · exact walk_f l a c k other w hr (by omega) hk x hx hne (by rw [hq, hrt]) (by rw [hq]; exact if_pos hrt) hL h2
            · exact walk_e l a c k other w hr (by omega) hk x hx hne 22 (by decide) (by rw [hq]; exact if_neg hrt) hL h2

end Go.Proofs.YtkjdnpalafldhaaDoor.proofOther
