/-
  ProofGrows: its walk. (Printed by sx_grows.py.)
-/
import Derived.Test.YtkjdnpalafldhaaDoorSx
import Derived.Test.YtkjdnpalafldhaaDoorRoot08
import Derived.Test.YtkjdnpalafldhaaDoorPrf11
import Derived.Test.YtkjdnpalafldhaaDoorAwake8
namespace Go.Proofs.YtkjdnpalafldhaaDoor.proofGrows
open Go.RowKit Go.Proofs.YtkjdnpalafldhaaDoor

/-! ### Types -/
namespace Grows
theorem ag38 : AgT Tryd.prog 38 32 := AgT.mk' Tryd.underlying38 rfl (by kernel_rfl)
theorem sz38 : (Tryd.prog.info? 38).map (·.size) = some 32 := by kernel_rfl
theorem ze38 : ZeS Tryd.prog 38 [(32, hv zeroH)] := ⟨hv zeroH, ZeT.mk' (by kernel_rfl), (sgA_h zeroH).symm⟩
end Grows
open Go.Proofs.YtkjdnpalafldhaaDoor.proofGrows.Grows

set_option maxRecDepth 100000 in
theorem walk (l : List Hsh) (a : Option Addr) (c : Nat) (I J : Int) (w0 : World) (hr : Rd w0 a l.length c 32 (hsc l)) (hL : Laid w0) (h2 : 2 ≤ w0.heap.size) :
    Calls Tryd.prog 11 #[.slice a l.length c, .int .i64 I, .int .i64 J] w0 fun e w' => e = .returned (.bool true) ∧ Kp [] w0 w' := by
  refine calls_st (F := []) (args := [.slice a l.length c, .int .i64 I, .int .i64 J]) Tryd.func11 rfl (n := 107) rfl rfl ?_
  intro ac w HF HS
  refine wp_seq ?_
  refine wp_region_lit ?_
  refine sx_y HF HS (yl_assign rfl) rfl rfl ?_; clear HF ac; intro ac HF
  refine wpList_nil ?_
  refine then_n ?_
  refine wp_seq ?_
  refine wp_seq ?_
  refine wp_region_lit ?_
  refine sx_y HF HS (yl_move rfl) rfl rfl ?_; clear HF ac; intro ac HF
  refine sx_y HF HS (yl_len_slice Tryd.underlying25 rfl) rfl rfl ?_; clear HF ac; intro ac HF
  refine sx_dec HF HS (yl_gtr rfl rfl rfl) rfl rfl ?_ ?_ <;> clear HF ac <;> intro h1x2 ac HF
  · refine sx_y HF HS (yl_move rfl) rfl rfl ?_; clear HF ac; intro ac HF
    refine sx_off HF rfl rfl ?_; clear HF ac; intro ac HF
    refine sx_off HF rfl rfl ?_; clear HF ac; intro ac HF
    refine sx_y HF HS (yl_pick (b := true) rfl rfl) rfl rfl ?_; clear HF ac; intro ac HF
    refine sx_y HF HS (yl_move rfl) rfl rfl ?_; clear HF ac; intro ac HF
    refine sx_off HF rfl rfl ?_; clear HF ac; intro ac HF
    refine sx_off HF rfl rfl ?_; clear HF ac; intro ac HF
    refine sx_off HF rfl rfl ?_; clear HF ac; intro ac HF
    refine sx_y HF HS (yl_pick (b := true) rfl rfl) rfl rfl ?_; clear HF ac; intro ac HF
    refine sx_y HF HS (yl_move rfl) rfl rfl ?_; clear HF ac; intro ac HF
    refine sx_off HF rfl rfl ?_; clear HF ac; intro ac HF
    refine sx_off HF rfl rfl ?_; clear HF ac; intro ac HF
    refine sx_off HF rfl rfl ?_; clear HF ac; intro ac HF
    refine sx_off HF rfl rfl ?_; clear HF ac; intro ac HF
    refine sx_y HF HS (yl_pick (b := true) rfl rfl) rfl rfl ?_; clear HF ac; intro ac HF
    refine wpList_nil ?_
    refine then_n ?_
    refine cx_true HF rfl ?_
    refine wp_seq ?_
    refine wp_region_lit ?_
    refine sx_call HF Tryd.func28 (by kernel_rfl) (by kernel_rfl) evs_nil (awake8_any w (hL.below HS.kp) (Nat.le_trans h2 HS.kp.size)) rfl rfl ?_; clear HF ac
    rintro _ w ⟨rfl, k1⟩
    refine ⟨_, rfl, fun ac HF => ?_⟩
    replace HS := HS.call k1
    clear k1
    refine sx_y HF HS (yl_assign rfl) rfl rfl ?_; clear HF ac; intro ac HF
    refine wpList_nil ?_
    refine then_n ?_
    refine wp_ret ?_
    refine then_r ?_
    exact rt1 rfl HF HS rfl ⟨rfl, HS.kp⟩
  · refine sx_y HF HS (yl_move rfl) rfl rfl ?_; clear HF ac; intro ac HF
    refine sx_y HF HS (yl_move rfl) rfl rfl ?_; clear HF ac; intro ac HF
    refine sx_dec HF HS (yl_lss rfl rfl rfl) rfl rfl ?_ ?_ <;> clear HF ac <;> intro h1x5 ac HF
    · refine sx_y HF HS (yl_pick (b := false) rfl rfl) rfl rfl ?_; clear HF ac; intro ac HF
      refine sx_y HF HS (yl_move rfl) rfl rfl ?_; clear HF ac; intro ac HF
      refine sx_off HF rfl rfl ?_; clear HF ac; intro ac HF
      refine sx_off HF rfl rfl ?_; clear HF ac; intro ac HF
      refine sx_off HF rfl rfl ?_; clear HF ac; intro ac HF
      refine sx_y HF HS (yl_pick (b := true) rfl rfl) rfl rfl ?_; clear HF ac; intro ac HF
      refine sx_y HF HS (yl_move rfl) rfl rfl ?_; clear HF ac; intro ac HF
      refine sx_off HF rfl rfl ?_; clear HF ac; intro ac HF
      refine sx_off HF rfl rfl ?_; clear HF ac; intro ac HF
      refine sx_off HF rfl rfl ?_; clear HF ac; intro ac HF
      refine sx_off HF rfl rfl ?_; clear HF ac; intro ac HF
      refine sx_y HF HS (yl_pick (b := true) rfl rfl) rfl rfl ?_; clear HF ac; intro ac HF
      refine wpList_nil ?_
      refine then_n ?_
      refine cx_true HF rfl ?_
      refine wp_seq ?_
      refine wp_region_lit ?_
      refine sx_call HF Tryd.func28 (by kernel_rfl) (by kernel_rfl) evs_nil (awake8_any w (hL.below HS.kp) (Nat.le_trans h2 HS.kp.size)) rfl rfl ?_; clear HF ac
      rintro _ w ⟨rfl, k1⟩
      refine ⟨_, rfl, fun ac HF => ?_⟩
      replace HS := HS.call k1
      clear k1
      refine sx_y HF HS (yl_assign rfl) rfl rfl ?_; clear HF ac; intro ac HF
      refine wpList_nil ?_
      refine then_n ?_
      refine wp_ret ?_
      refine then_r ?_
      exact rt1 rfl HF HS rfl ⟨rfl, HS.kp⟩
    · refine sx_y HF HS (yl_pick (b := false) rfl rfl) rfl rfl ?_; clear HF ac; intro ac HF
      refine sx_y HF HS (yl_move rfl) rfl rfl ?_; clear HF ac; intro ac HF
      refine sx_y HF HS (yl_move rfl) rfl rfl ?_; clear HF ac; intro ac HF
      refine sx_y HF HS (yl_move rfl) rfl rfl ?_; clear HF ac; intro ac HF
      refine sx_dec HF HS (yl_gtr rfl rfl rfl) rfl rfl ?_ ?_ <;> clear HF ac <;> intro h1x10 ac HF
      · refine sx_y HF HS (yl_pick (b := false) rfl rfl) rfl rfl ?_; clear HF ac; intro ac HF
        refine sx_y HF HS (yl_move rfl) rfl rfl ?_; clear HF ac; intro ac HF
        refine sx_off HF rfl rfl ?_; clear HF ac; intro ac HF
        refine sx_off HF rfl rfl ?_; clear HF ac; intro ac HF
        refine sx_off HF rfl rfl ?_; clear HF ac; intro ac HF
        refine sx_off HF rfl rfl ?_; clear HF ac; intro ac HF
        refine sx_y HF HS (yl_pick (b := true) rfl rfl) rfl rfl ?_; clear HF ac; intro ac HF
        refine wpList_nil ?_
        refine then_n ?_
        refine cx_true HF rfl ?_
        refine wp_seq ?_
        refine wp_region_lit ?_
        refine sx_call HF Tryd.func28 (by kernel_rfl) (by kernel_rfl) evs_nil (awake8_any w (hL.below HS.kp) (Nat.le_trans h2 HS.kp.size)) rfl rfl ?_; clear HF ac
        rintro _ w ⟨rfl, k1⟩
        refine ⟨_, rfl, fun ac HF => ?_⟩
        replace HS := HS.call k1
        clear k1
        refine sx_y HF HS (yl_assign rfl) rfl rfl ?_; clear HF ac; intro ac HF
        refine wpList_nil ?_
        refine then_n ?_
        refine wp_ret ?_
        refine then_r ?_
        exact rt1 rfl HF HS rfl ⟨rfl, HS.kp⟩
      · refine sx_y HF HS (yl_pick (b := false) rfl rfl) rfl rfl ?_; clear HF ac; intro ac HF
        refine sx_y HF HS (yl_move rfl) rfl rfl ?_; clear HF ac; intro ac HF
        refine sx_y HF HS (yl_move rfl) rfl rfl ?_; clear HF ac; intro ac HF
        refine sx_y HF HS (yl_move rfl) rfl rfl ?_; clear HF ac; intro ac HF
        refine sx_y HF HS (yl_len_slice Tryd.underlying25 rfl) rfl rfl ?_; clear HF ac; intro ac HF
        refine sx_dec HF HS (yl_gtr rfl rfl rfl) rfl rfl ?_ ?_ <;> clear HF ac <;> intro h1x16 ac HF
        · refine sx_y HF HS (yl_pick (b := false) rfl rfl) rfl rfl ?_; clear HF ac; intro ac HF
          refine wpList_nil ?_
          refine then_n ?_
          refine cx_true HF rfl ?_
          refine wp_seq ?_
          refine wp_region_lit ?_
          refine sx_call HF Tryd.func28 (by kernel_rfl) (by kernel_rfl) evs_nil (awake8_any w (hL.below HS.kp) (Nat.le_trans h2 HS.kp.size)) rfl rfl ?_; clear HF ac
          rintro _ w ⟨rfl, k1⟩
          refine ⟨_, rfl, fun ac HF => ?_⟩
          replace HS := HS.call k1
          clear k1
          refine sx_y HF HS (yl_assign rfl) rfl rfl ?_; clear HF ac; intro ac HF
          refine wpList_nil ?_
          refine then_n ?_
          refine wp_ret ?_
          refine then_r ?_
          exact rt1 rfl HF HS rfl ⟨rfl, HS.kp⟩
        · obtain ⟨i, rfl⟩ : ∃ i : Nat, I = i := ⟨I.toNat, by omega⟩
          obtain ⟨j, rfl⟩ : ∃ j : Nat, J = j := ⟨J.toNat, by omega⟩
          have hij : i ≤ j := by omega
          have hjl : j ≤ l.length := by omega
          have htj : (l.take j).length = j := by rw [List.length_take]; omega
          have hti : (l.take i).length = i := by rw [List.length_take]; omega
          have htt : (l.take j).take i = l.take i := by rw [List.take_take]; congr 1; omega
          have hrj := hr.takeH j hjl
          have hri := hr.takeH i (by omega)
          have hon1 := on_right (l.take j) i (by omega) (by omega)
          have hon2 := on_right l j hjl (by omega)
          have hon3 := on_right l i (by omega) (by omega)
          rw [htj, htt] at hon1
          have HP1 := fun w (k : Kp [] w0 w) => proof_all (l.take j) a c i w (hrj.below k) (by omega) (by omega) (hL.below k) (Nat.le_trans h2 k.size)
          have HP2 := fun w (k : Kp [] w0 w) => proof_all l a c j w (hr.below k) (by omega) hjl (hL.below k) (Nat.le_trans h2 k.size)
          have HP3 := fun w (k : Kp [] w0 w) => proof_all l a c i w (hr.below k) (by omega) (by omega) (hL.below k) (Nat.le_trans h2 k.size)
          have HR1 := fun w (k : Kp [] w0 w) => root08_any (l.take i) a c w (hri.below k) (by omega) (hL.below k) (Nat.le_trans h2 k.size)
          have HR2 := fun w (k : Kp [] w0 w) => root08_any (l.take j) a c w (hrj.below k) (by omega) (hL.below k) (Nat.le_trans h2 k.size)
          have HR3 := fun w (k : Kp [] w0 w) => root08_any l a c w (hr.below k) (by omega) (hL.below k) (Nat.le_trans h2 k.size)
          generalize proofA (l.take j) i = p at *
          generalize proofA l j = q at *
          generalize proofA l i = r at *
          generalize rootH (l.take i) = x at *
          generalize rootH (l.take j) = y at *
          generalize rootH l = z at *
          have hcap := hr.lim
          refine sx_y HF HS (yl_pick (b := false) rfl rfl) rfl rfl ?_; clear HF ac; intro ac HF
          refine wpList_nil ?_
          refine then_n ?_
          refine cx_false HF rfl ?_
          refine wp_skip ?_
          refine then_n ?_
          refine wp_seq ?_
          refine wp_region_lit ?_
          refine sx_y HF HS (yl_move rfl) rfl rfl ?_; clear HF ac; intro ac HF
          refine sx_y HF HS (yl_move rfl) rfl rfl ?_; clear HF ac; intro ac HF
          refine sx_y HF HS (sl_hi (r := (l.take j).length) Tryd.underlying25 sz38 rfl rfl (by omega) htj.symm) rfl rfl ?_; clear HF ac; intro ac HF
          refine sx_y HF HS (yl_move rfl) rfl rfl ?_; clear HF ac; intro ac HF
          refine sx_call HF Tryd.func26 (by kernel_rfl) (by kernel_rfl) (evs_cons rfl (evs_cons rfl evs_nil)) (HP1 w HS.kp) rfl rfl ?_; clear HF ac
          rintro _ w ⟨_, rfl, a7, c7, rfl, o7, f7, k7⟩
          refine ⟨_, rfl, fun ac HF => ?_⟩
          replace HS := HS.addRow k7 o7 f7
          clear o7 f7 k7
          refine sx_y HF HS (yl_move rfl) rfl rfl ?_; clear HF ac; intro ac HF
          refine sx_y HF HS (yl_extract rfl rfl) rfl rfl ?_; clear HF ac; intro ac HF
          refine sx_y HF HS (yl_extract rfl rfl) rfl rfl ?_; clear HF ac; intro ac HF
          refine sx_y HF HS (yl_assign rfl) rfl rfl ?_; clear HF ac; intro ac HF
          refine sx_y HF HS (yl_assign rfl) rfl rfl ?_; clear HF ac; intro ac HF
          refine wpList_nil ?_
          refine then_n ?_
          refine wp_seq ?_
          refine wp_region_lit ?_
          refine sx_y HF HS (yl_move rfl) rfl rfl ?_; clear HF ac; intro ac HF
          refine sx_y HF HS (yl_move rfl) rfl rfl ?_; clear HF ac; intro ac HF
          refine sx_call HF Tryd.func26 (by kernel_rfl) (by kernel_rfl) (evs_cons rfl (evs_cons rfl evs_nil)) (HP2 w HS.kp) rfl rfl ?_; clear HF ac
          rintro _ w ⟨_, rfl, a9, c9, rfl, o7, f7, k7⟩
          refine ⟨_, rfl, fun ac HF => ?_⟩
          replace HS := HS.addRow k7 o7 f7
          clear o7 f7 k7
          refine sx_y HF HS (yl_move rfl) rfl rfl ?_; clear HF ac; intro ac HF
          refine sx_y HF HS (yl_extract rfl rfl) rfl rfl ?_; clear HF ac; intro ac HF
          refine sx_y HF HS (yl_extract rfl rfl) rfl rfl ?_; clear HF ac; intro ac HF
          refine sx_y HF HS (yl_assign rfl) rfl rfl ?_; clear HF ac; intro ac HF
          refine sx_y HF HS (yl_assign rfl) rfl rfl ?_; clear HF ac; intro ac HF
          refine wpList_nil ?_
          refine then_n ?_
          refine wp_seq ?_
          refine wp_region_lit ?_
          refine sx_y HF HS (yl_move rfl) rfl rfl ?_; clear HF ac; intro ac HF
          refine sx_y HF HS (yl_move rfl) rfl rfl ?_; clear HF ac; intro ac HF
          refine sx_call HF Tryd.func26 (by kernel_rfl) (by kernel_rfl) (evs_cons rfl (evs_cons rfl evs_nil)) (HP3 w HS.kp) rfl rfl ?_; clear HF ac
          rintro _ w ⟨_, rfl, a11, c11, rfl, o7, f7, k7⟩
          refine ⟨_, rfl, fun ac HF => ?_⟩
          replace HS := HS.addRow k7 o7 f7
          clear o7 f7 k7
          refine sx_y HF HS (yl_move rfl) rfl rfl ?_; clear HF ac; intro ac HF
          refine sx_y HF HS (yl_extract rfl rfl) rfl rfl ?_; clear HF ac; intro ac HF
          refine sx_y HF HS (yl_extract rfl rfl) rfl rfl ?_; clear HF ac; intro ac HF
          refine sx_y HF HS (yl_assign rfl) rfl rfl ?_; clear HF ac; intro ac HF
          refine sx_y HF HS (yl_assign rfl) rfl rfl ?_; clear HF ac; intro ac HF
          refine wpList_nil ?_
          refine then_n ?_
          refine wp_seq ?_
          replace HF := HF.sub (m' := [(0, _), (1, _), (2, _), (6, _), (7, _), (8, _), (9, _), (10, _), (11, _), (12, _)]) (by repeat (first | exact ag_nil | refine ag_cons rfl ?_))
          refine dx_join HF HS (fun m L R ac w => ∃ g13 g14 g15, Fr ([(13, .pointer (some ⟨g13, 0, none⟩)), (14, .pointer (some ⟨g14, 0, none⟩)), (15, .pointer (some ⟨g15, 0, none⟩))] ++ m) 107 ac ∧ St [] w0 (⟨g15, sgA [(32, hv z)], 38⟩ :: ⟨g14, sgA [(32, hv y)], 38⟩ :: ⟨g13, sgA [(32, hv x)], 38⟩ :: L) R w) ?_ ?_
          · clear HF HS ac w
            rintro ac w ⟨g13, g14, g15, HF, HS⟩
            refine then_n ?_
            refine wp_seq ?_
            refine wp_region_lit ?_
            refine sx_y HF HS (yl_move rfl) rfl rfl ?_; clear HF ac; intro ac HF
            refine sx_y HF HS (yl_eql rfl rfl (decide_eq_true (by omega))) rfl rfl ?_; clear HF ac; intro ac HF
            refine sx_y HF HS (yl_move rfl) rfl rfl ?_; clear HF ac; intro ac HF
            refine sx_y HF HS (yl_move rfl) rfl rfl ?_; clear HF ac; intro ac HF
            refine sx_y HF HS (yl_eql rfl rfl (decide_eq_true (by omega))) rfl rfl ?_; clear HF ac; intro ac HF
            refine sx_y HF HS (yl_pick (b := true) rfl rfl) rfl rfl ?_; clear HF ac; intro ac HF
            refine sx_y HF HS (yl_move rfl) rfl rfl ?_; clear HF ac; intro ac HF
            refine sx_y HF HS (yl_move rfl) rfl rfl ?_; clear HF ac; intro ac HF
            refine sx_y HF HS (yl_eql rfl rfl (decide_eq_true (by omega))) rfl rfl ?_; clear HF ac; intro ac HF
            refine sx_y HF HS (yl_pick (b := true) rfl rfl) rfl rfl ?_; clear HF ac; intro ac HF
            refine sx_y HF HS (yl_move rfl) rfl rfl ?_; clear HF ac; intro ac HF
            refine sx_y HF HS (yl_move rfl) rfl rfl ?_; clear HF ac; intro ac HF
            refine sx_y HF HS (yl_move rfl) rfl rfl ?_; clear HF ac; intro ac HF
            refine sx_y HF HS (ld_ag ag38 rfl rfl) rfl rfl ?_; clear HF ac; intro ac HF
            refine sx_y HF HS (ld_ag ag38 rfl rfl) rfl rfl ?_; clear HF ac; intro ac HF
            refine sx_y HF HS (yl_move rfl) rfl rfl ?_; clear HF ac; intro ac HF
            refine sx_call HF Tryd.func36 (by kernel_rfl) (by kernel_rfl) (evs_cons rfl (evs_cons rfl (evs_cons rfl (evs_cons rfl (evs_cons rfl evs_nil))))) (on_good i j x y p _ _ w HS.row2 (by omega) (by omega) (hL.below HS.kp) (Nat.le_trans h2 HS.kp.size)) rfl rfl ?_; clear HF ac
            rintro _ w ⟨rfl, k1⟩
            rw [hon1]
            refine ⟨_, rfl, fun ac HF => ?_⟩
            replace HS := HS.call k1
            clear k1
            refine sx_y HF HS (yl_eql rfl rfl (decide_eq_true (by omega))) rfl rfl ?_; clear HF ac; intro ac HF
            refine sx_y HF HS (yl_pick (b := true) rfl rfl) rfl rfl ?_; clear HF ac; intro ac HF
            refine sx_y HF HS (yl_move rfl) rfl rfl ?_; clear HF ac; intro ac HF
            refine sx_y HF HS (yl_move rfl) rfl rfl ?_; clear HF ac; intro ac HF
            refine sx_y HF HS (yl_move rfl) rfl rfl ?_; clear HF ac; intro ac HF
            refine sx_y HF HS (yl_len_slice Tryd.underlying25 rfl) rfl rfl ?_; clear HF ac; intro ac HF
            refine sx_y HF HS (ld_ag ag38 rfl rfl) rfl rfl ?_; clear HF ac; intro ac HF
            refine sx_y HF HS (ld_ag ag38 rfl rfl) rfl rfl ?_; clear HF ac; intro ac HF
            refine sx_y HF HS (yl_move rfl) rfl rfl ?_; clear HF ac; intro ac HF
            refine sx_call HF Tryd.func36 (by kernel_rfl) (by kernel_rfl) (evs_cons rfl (evs_cons rfl (evs_cons rfl (evs_cons rfl (evs_cons rfl evs_nil))))) (on_good j l.length y z q _ _ w HS.row1 (by omega) (by omega) (hL.below HS.kp) (Nat.le_trans h2 HS.kp.size)) rfl rfl ?_; clear HF ac
            rintro _ w ⟨rfl, k1⟩
            rw [hon2]
            refine ⟨_, rfl, fun ac HF => ?_⟩
            replace HS := HS.call k1
            clear k1
            refine sx_y HF HS (yl_eql rfl rfl (decide_eq_true (by omega))) rfl rfl ?_; clear HF ac; intro ac HF
            refine sx_y HF HS (yl_pick (b := true) rfl rfl) rfl rfl ?_; clear HF ac; intro ac HF
            refine sx_y HF HS (yl_move rfl) rfl rfl ?_; clear HF ac; intro ac HF
            refine sx_y HF HS (yl_move rfl) rfl rfl ?_; clear HF ac; intro ac HF
            refine sx_y HF HS (yl_move rfl) rfl rfl ?_; clear HF ac; intro ac HF
            refine sx_y HF HS (yl_len_slice Tryd.underlying25 rfl) rfl rfl ?_; clear HF ac; intro ac HF
            refine sx_y HF HS (ld_ag ag38 rfl rfl) rfl rfl ?_; clear HF ac; intro ac HF
            refine sx_y HF HS (ld_ag ag38 rfl rfl) rfl rfl ?_; clear HF ac; intro ac HF
            refine sx_y HF HS (yl_move rfl) rfl rfl ?_; clear HF ac; intro ac HF
            refine sx_call HF Tryd.func36 (by kernel_rfl) (by kernel_rfl) (evs_cons rfl (evs_cons rfl (evs_cons rfl (evs_cons rfl (evs_cons rfl evs_nil))))) (on_good i l.length x z r _ _ w HS.row0 (by omega) (by omega) (hL.below HS.kp) (Nat.le_trans h2 HS.kp.size)) rfl rfl ?_; clear HF ac
            rintro _ w ⟨rfl, k1⟩
            rw [hon3]
            refine ⟨_, rfl, fun ac HF => ?_⟩
            replace HS := HS.call k1
            clear k1
            refine sx_y HF HS (yl_eql rfl rfl (decide_eq_true (by omega))) rfl rfl ?_; clear HF ac; intro ac HF
            refine sx_y HF HS (yl_pick (b := true) rfl rfl) rfl rfl ?_; clear HF ac; intro ac HF
            refine sx_y HF HS (yl_move rfl) rfl rfl ?_; clear HF ac; intro ac HF
            refine sx_call HF Tryd.func28 (by kernel_rfl) (by kernel_rfl) evs_nil (awake8_any w (hL.below HS.kp) (Nat.le_trans h2 HS.kp.size)) rfl rfl ?_; clear HF ac
            rintro _ w ⟨rfl, k1⟩
            refine ⟨_, rfl, fun ac HF => ?_⟩
            replace HS := HS.call k1
            clear k1
            refine sx_y HF HS (yl_pick (b := true) rfl rfl) rfl rfl ?_; clear HF ac; intro ac HF
            refine sx_y HF HS (yl_assign rfl) rfl rfl ?_; clear HF ac; intro ac HF
            refine wpList_nil ?_
            refine then_n ?_
            refine wp_ret ?_
            exact rt1 rfl HF HS rfl ⟨rfl, HS.kp⟩
          · intro J
            refine dx_region 16 (by kernel_rfl) HS.drew (fun _ h => h) ?_; clear HS; intro w HS
            have HH := HS
            refine dx_p (i := 0) HF rfl (by kernel_rfl) (by kernel_rfl) (by kernel_rfl) (by decide) (fun _ _ _ h => h) (fun _ => HH) (yl_move rfl) rfl rfl ?_; clear HF ac; intro ac HF
            refine dx_p (i := 1) HF rfl (by kernel_rfl) (by kernel_rfl) (by kernel_rfl) (by decide) (fun _ _ _ h => h) (fun _ => HH) (yl_move rfl) rfl rfl ?_; clear HF ac; intro ac HF
            refine dx_p (i := 2) HF rfl (by kernel_rfl) (by kernel_rfl) (by kernel_rfl) (by decide) (fun _ _ _ h => h) (fun _ => HH) (sl_hi (r := (l.take i).length) Tryd.underlying25 sz38 rfl rfl (by omega) hti.symm) rfl rfl ?_; clear HF ac; intro ac HF
            refine dx_p (i := 4) HF rfl (by kernel_rfl) (by kernel_rfl) (by kernel_rfl) (by decide) (fun _ _ _ h => h) (fun _ => HH) (yl_move rfl) rfl rfl ?_; clear HF ac; intro ac HF
            refine dx_p (i := 5) HF rfl (by kernel_rfl) (by kernel_rfl) (by kernel_rfl) (by decide) (fun _ _ _ h => h) (fun _ => HH) (yl_move rfl) rfl rfl ?_; clear HF ac; intro ac HF
            refine dx_p (i := 6) HF rfl (by kernel_rfl) (by kernel_rfl) (by kernel_rfl) (by decide) (fun _ _ _ h => h) (fun _ => HH) (sl_hi (r := (l.take j).length) Tryd.underlying25 sz38 rfl rfl (by omega) htj.symm) rfl rfl ?_; clear HF ac; intro ac HF
            refine dx_p (i := 8) HF rfl (by kernel_rfl) (by kernel_rfl) (by kernel_rfl) (by decide) (fun _ _ _ h => h) (fun _ => HH) (yl_move rfl) rfl rfl ?_; clear HF ac; intro ac HF
            refine dx_four (i := 3) (j := 10) (j2 := 11) (j3 := 12) (by kernel_rfl) ?_ ?_ ?_ ?_
            · refine op_call (i := 3) HF rfl Tryd.func39 (by kernel_rfl) (by kernel_rfl) (evs_cons rfl evs_nil) (HR1 w HS.kp) rfl rfl ?_; clear HF ac
              rintro _ w ⟨rfl, k1⟩
              refine ⟨_, rfl, fun ac HF => ?_⟩
              replace HH := HH.call k1
              replace HS := HS.call k1
              clear k1
              refine ⟨fun _ => HH, ?_⟩
              refine dx_four (i := 7) (j := 10) (j2 := 11) (j3 := 12) (by kernel_rfl) ?_ ?_ ?_ ?_
              · refine op_call (i := 7) HF rfl Tryd.func39 (by kernel_rfl) (by kernel_rfl) (evs_cons rfl evs_nil) (HR2 w HS.kp) rfl rfl ?_; clear HF ac
                rintro _ w ⟨rfl, k1⟩
                refine ⟨_, rfl, fun ac HF => ?_⟩
                replace HH := HH.call k1
                replace HS := HS.call k1
                clear k1
                refine ⟨fun _ => HH, ?_⟩
                refine dx_four (i := 9) (j := 10) (j2 := 11) (j3 := 12) (by kernel_rfl) ?_ ?_ ?_ ?_
                · refine op_call (i := 9) HF rfl Tryd.func39 (by kernel_rfl) (by kernel_rfl) (evs_cons rfl evs_nil) (HR3 w HS.kp) rfl rfl ?_; clear HF ac
                  rintro _ w ⟨rfl, k1⟩
                  refine ⟨_, rfl, fun ac HF => ?_⟩
                  replace HH := HH.call k1
                  replace HS := HS.call k1
                  clear k1
                  refine ⟨fun _ => HH, ?_⟩
                  refine dx_three (i := 10) (j := 11) (j2 := 12) (by kernel_rfl) ?_ ?_ ?_
                  · refine op_ef (i := 10) HF rfl rfl rfl (ef_alloc HS ze38) ?_; clear HF HS ac; rintro _ w ac ⟨g13, rfl, HS⟩ HF
                    replace HH := HS.d1
                    refine ⟨fun _ => HH, ?_⟩
                    refine dx_two (i := 11) (j := 12) (by kernel_rfl) ?_ ?_
                    · refine op_ef (i := 11) HF rfl rfl rfl (ef_alloc HS ze38) ?_; clear HF HS ac; rintro _ w ac ⟨g14, rfl, HS⟩ HF
                      replace HH := HS.d2
                      refine ⟨fun _ => HH, ?_⟩
                      refine dx_one (i := 12) (by kernel_rfl) ?_
                      refine op_ef (i := 12) HF rfl rfl rfl (ef_alloc HS ze38) ?_; clear HF HS ac; rintro _ w ac ⟨g15, rfl, HS⟩ HF
                      replace HH := HS.d3
                      refine ⟨fun _ => HH, ?_⟩
                      refine dx_one (i := 13) (by kernel_rfl) ?_
                      refine op_ef0 (i := 13) HF rfl rfl (ef_store HS sz38 rfl rfl rfl) ?_; clear HS; rintro _ w HS
                      replace HH := HS.d3
                      refine ⟨fun _ => HH, ?_⟩
                      refine dx_one (i := 14) (by kernel_rfl) ?_
                      refine op_ef0 (i := 14) HF rfl rfl (ef_store HS sz38 rfl rfl rfl) ?_; clear HS; rintro _ w HS
                      replace HH := HS.d3
                      refine ⟨fun _ => HH, ?_⟩
                      refine dx_one (i := 15) (by kernel_rfl) ?_
                      refine op_ef0 (i := 15) HF rfl rfl (ef_store HS sz38 rfl rfl rfl) ?_; clear HS; rintro _ w HS
                      replace HH := HS.d3
                      refine ⟨fun _ => HH, ?_⟩
                      refine dx_done (by kernel_rfl) ?_
                      exact J _ _ ⟨_, _, _, HF.sub (by repeat (first | exact ag_nil | refine ag_cons rfl ?_)), HS⟩
                    · refine op_ef (i := 12) HF rfl rfl rfl (ef_alloc HS ze38) ?_; clear HF HS ac; rintro _ w ac ⟨g15, rfl, HS⟩ HF
                      replace HH := HS.d2
                      refine ⟨fun _ => HH, ?_⟩
                      refine dx_one (i := 11) (by kernel_rfl) ?_
                      refine op_ef (i := 11) HF rfl rfl rfl (ef_alloc HS ze38) ?_; clear HF HS ac; rintro _ w ac ⟨g14, rfl, HS⟩ HF
                      replace HH := HS.d3
                      refine ⟨fun _ => HH, ?_⟩
                      refine dx_one (i := 13) (by kernel_rfl) ?_
                      refine op_ef0 (i := 13) HF rfl rfl (ef_store HS sz38 rfl rfl rfl) ?_; clear HS; rintro _ w HS
                      replace HH := HS.d3
                      refine ⟨fun _ => HH, ?_⟩
                      refine dx_one (i := 14) (by kernel_rfl) ?_
                      refine op_ef0 (i := 14) HF rfl rfl (ef_store HS sz38 rfl rfl rfl) ?_; clear HS; rintro _ w HS
                      replace HH := HS.d3
                      refine ⟨fun _ => HH, ?_⟩
                      refine dx_one (i := 15) (by kernel_rfl) ?_
                      refine op_ef0 (i := 15) HF rfl rfl (ef_store HS sz38 rfl rfl rfl) ?_; clear HS; rintro _ w HS
                      replace HH := HS.d3
                      refine ⟨fun _ => HH, ?_⟩
                      refine dx_done (by kernel_rfl) ?_
                      exact J _ _ ⟨_, _, _, HF.sub (by repeat (first | exact ag_nil | refine ag_cons rfl ?_)), HS.swap⟩
                  · refine op_ef (i := 11) HF rfl rfl rfl (ef_alloc HS ze38) ?_; clear HF HS ac; rintro _ w ac ⟨g14, rfl, HS⟩ HF
                    replace HH := HS.d1
                    refine ⟨fun _ => HH, ?_⟩
                    refine dx_two (i := 10) (j := 12) (by kernel_rfl) ?_ ?_
                    · refine op_ef (i := 10) HF rfl rfl rfl (ef_alloc HS ze38) ?_; clear HF HS ac; rintro _ w ac ⟨g13, rfl, HS⟩ HF
                      replace HH := HS.d2
                      refine ⟨fun _ => HH, ?_⟩
                      refine dx_one (i := 12) (by kernel_rfl) ?_
                      refine op_ef (i := 12) HF rfl rfl rfl (ef_alloc HS ze38) ?_; clear HF HS ac; rintro _ w ac ⟨g15, rfl, HS⟩ HF
                      replace HH := HS.d3
                      refine ⟨fun _ => HH, ?_⟩
                      refine dx_one (i := 13) (by kernel_rfl) ?_
                      refine op_ef0 (i := 13) HF rfl rfl (ef_store HS sz38 rfl rfl rfl) ?_; clear HS; rintro _ w HS
                      replace HH := HS.d3
                      refine ⟨fun _ => HH, ?_⟩
                      refine dx_one (i := 14) (by kernel_rfl) ?_
                      refine op_ef0 (i := 14) HF rfl rfl (ef_store HS sz38 rfl rfl rfl) ?_; clear HS; rintro _ w HS
                      replace HH := HS.d3
                      refine ⟨fun _ => HH, ?_⟩
                      refine dx_one (i := 15) (by kernel_rfl) ?_
                      refine op_ef0 (i := 15) HF rfl rfl (ef_store HS sz38 rfl rfl rfl) ?_; clear HS; rintro _ w HS
                      replace HH := HS.d3
                      refine ⟨fun _ => HH, ?_⟩
                      refine dx_done (by kernel_rfl) ?_
                      exact J _ _ ⟨_, _, _, HF.sub (by repeat (first | exact ag_nil | refine ag_cons rfl ?_)), HS.swap.rot⟩
                    · refine op_ef (i := 12) HF rfl rfl rfl (ef_alloc HS ze38) ?_; clear HF HS ac; rintro _ w ac ⟨g15, rfl, HS⟩ HF
                      replace HH := HS.d2
                      refine ⟨fun _ => HH, ?_⟩
                      refine dx_one (i := 10) (by kernel_rfl) ?_
                      refine op_ef (i := 10) HF rfl rfl rfl (ef_alloc HS ze38) ?_; clear HF HS ac; rintro _ w ac ⟨g13, rfl, HS⟩ HF
                      replace HH := HS.d3
                      refine ⟨fun _ => HH, ?_⟩
                      refine dx_one (i := 13) (by kernel_rfl) ?_
                      refine op_ef0 (i := 13) HF rfl rfl (ef_store HS sz38 rfl rfl rfl) ?_; clear HS; rintro _ w HS
                      replace HH := HS.d3
                      refine ⟨fun _ => HH, ?_⟩
                      refine dx_one (i := 14) (by kernel_rfl) ?_
                      refine op_ef0 (i := 14) HF rfl rfl (ef_store HS sz38 rfl rfl rfl) ?_; clear HS; rintro _ w HS
                      replace HH := HS.d3
                      refine ⟨fun _ => HH, ?_⟩
                      refine dx_one (i := 15) (by kernel_rfl) ?_
                      refine op_ef0 (i := 15) HF rfl rfl (ef_store HS sz38 rfl rfl rfl) ?_; clear HS; rintro _ w HS
                      replace HH := HS.d3
                      refine ⟨fun _ => HH, ?_⟩
                      refine dx_done (by kernel_rfl) ?_
                      exact J _ _ ⟨_, _, _, HF.sub (by repeat (first | exact ag_nil | refine ag_cons rfl ?_)), HS.rot⟩
                  · refine op_ef (i := 12) HF rfl rfl rfl (ef_alloc HS ze38) ?_; clear HF HS ac; rintro _ w ac ⟨g15, rfl, HS⟩ HF
                    replace HH := HS.d1
                    refine ⟨fun _ => HH, ?_⟩
                    refine dx_two (i := 10) (j := 11) (by kernel_rfl) ?_ ?_
                    · refine op_ef (i := 10) HF rfl rfl rfl (ef_alloc HS ze38) ?_; clear HF HS ac; rintro _ w ac ⟨g13, rfl, HS⟩ HF
                      replace HH := HS.d2
                      refine ⟨fun _ => HH, ?_⟩
                      refine dx_one (i := 11) (by kernel_rfl) ?_
                      refine op_ef (i := 11) HF rfl rfl rfl (ef_alloc HS ze38) ?_; clear HF HS ac; rintro _ w ac ⟨g14, rfl, HS⟩ HF
                      replace HH := HS.d3
                      refine ⟨fun _ => HH, ?_⟩
                      refine dx_one (i := 13) (by kernel_rfl) ?_
                      refine op_ef0 (i := 13) HF rfl rfl (ef_store HS sz38 rfl rfl rfl) ?_; clear HS; rintro _ w HS
                      replace HH := HS.d3
                      refine ⟨fun _ => HH, ?_⟩
                      refine dx_one (i := 14) (by kernel_rfl) ?_
                      refine op_ef0 (i := 14) HF rfl rfl (ef_store HS sz38 rfl rfl rfl) ?_; clear HS; rintro _ w HS
                      replace HH := HS.d3
                      refine ⟨fun _ => HH, ?_⟩
                      refine dx_one (i := 15) (by kernel_rfl) ?_
                      refine op_ef0 (i := 15) HF rfl rfl (ef_store HS sz38 rfl rfl rfl) ?_; clear HS; rintro _ w HS
                      replace HH := HS.d3
                      refine ⟨fun _ => HH, ?_⟩
                      refine dx_done (by kernel_rfl) ?_
                      exact J _ _ ⟨_, _, _, HF.sub (by repeat (first | exact ag_nil | refine ag_cons rfl ?_)), HS.rot.rot⟩
                    · refine op_ef (i := 11) HF rfl rfl rfl (ef_alloc HS ze38) ?_; clear HF HS ac; rintro _ w ac ⟨g14, rfl, HS⟩ HF
                      replace HH := HS.d2
                      refine ⟨fun _ => HH, ?_⟩
                      refine dx_one (i := 10) (by kernel_rfl) ?_
                      refine op_ef (i := 10) HF rfl rfl rfl (ef_alloc HS ze38) ?_; clear HF HS ac; rintro _ w ac ⟨g13, rfl, HS⟩ HF
                      replace HH := HS.d3
                      refine ⟨fun _ => HH, ?_⟩
                      refine dx_one (i := 13) (by kernel_rfl) ?_
                      refine op_ef0 (i := 13) HF rfl rfl (ef_store HS sz38 rfl rfl rfl) ?_; clear HS; rintro _ w HS
                      replace HH := HS.d3
                      refine ⟨fun _ => HH, ?_⟩
                      refine dx_one (i := 14) (by kernel_rfl) ?_
                      refine op_ef0 (i := 14) HF rfl rfl (ef_store HS sz38 rfl rfl rfl) ?_; clear HS; rintro _ w HS
                      replace HH := HS.d3
                      refine ⟨fun _ => HH, ?_⟩
                      refine dx_one (i := 15) (by kernel_rfl) ?_
                      refine op_ef0 (i := 15) HF rfl rfl (ef_store HS sz38 rfl rfl rfl) ?_; clear HS; rintro _ w HS
                      replace HH := HS.d3
                      refine ⟨fun _ => HH, ?_⟩
                      refine dx_done (by kernel_rfl) ?_
                      exact J _ _ ⟨_, _, _, HF.sub (by repeat (first | exact ag_nil | refine ag_cons rfl ?_)), HS.rot.swap⟩
                · refine op_ef (i := 10) HF rfl rfl rfl (ef_alloc HS ze38) ?_; clear HF HS ac; rintro _ w ac ⟨g13, rfl, HS⟩ HF
                  replace HH := HS.d1
                  refine ⟨fun _ => HH, ?_⟩
                  refine dx_three (i := 9) (j := 11) (j2 := 12) (by kernel_rfl) ?_ ?_ ?_
                  · refine op_call (i := 9) HF rfl Tryd.func39 (by kernel_rfl) (by kernel_rfl) (evs_cons rfl evs_nil) (HR3 w HS.kp) rfl rfl ?_; clear HF ac
                    rintro _ w ⟨rfl, k1⟩
                    refine ⟨_, rfl, fun ac HF => ?_⟩
                    replace HH := HH.call k1
                    replace HS := HS.call k1
                    clear k1
                    refine ⟨fun _ => HH, ?_⟩
                    refine dx_two (i := 11) (j := 12) (by kernel_rfl) ?_ ?_
                    · refine op_ef (i := 11) HF rfl rfl rfl (ef_alloc HS ze38) ?_; clear HF HS ac; rintro _ w ac ⟨g14, rfl, HS⟩ HF
                      replace HH := HS.d2
                      refine ⟨fun _ => HH, ?_⟩
                      refine dx_one (i := 12) (by kernel_rfl) ?_
                      refine op_ef (i := 12) HF rfl rfl rfl (ef_alloc HS ze38) ?_; clear HF HS ac; rintro _ w ac ⟨g15, rfl, HS⟩ HF
                      replace HH := HS.d3
                      refine ⟨fun _ => HH, ?_⟩
                      refine dx_one (i := 13) (by kernel_rfl) ?_
                      refine op_ef0 (i := 13) HF rfl rfl (ef_store HS sz38 rfl rfl rfl) ?_; clear HS; rintro _ w HS
                      replace HH := HS.d3
                      refine ⟨fun _ => HH, ?_⟩
                      refine dx_one (i := 14) (by kernel_rfl) ?_
                      refine op_ef0 (i := 14) HF rfl rfl (ef_store HS sz38 rfl rfl rfl) ?_; clear HS; rintro _ w HS
                      replace HH := HS.d3
                      refine ⟨fun _ => HH, ?_⟩
                      refine dx_one (i := 15) (by kernel_rfl) ?_
                      refine op_ef0 (i := 15) HF rfl rfl (ef_store HS sz38 rfl rfl rfl) ?_; clear HS; rintro _ w HS
                      replace HH := HS.d3
                      refine ⟨fun _ => HH, ?_⟩
                      refine dx_done (by kernel_rfl) ?_
                      exact J _ _ ⟨_, _, _, HF.sub (by repeat (first | exact ag_nil | refine ag_cons rfl ?_)), HS⟩
                    · refine op_ef (i := 12) HF rfl rfl rfl (ef_alloc HS ze38) ?_; clear HF HS ac; rintro _ w ac ⟨g15, rfl, HS⟩ HF
                      replace HH := HS.d2
                      refine ⟨fun _ => HH, ?_⟩
                      refine dx_one (i := 11) (by kernel_rfl) ?_
                      refine op_ef (i := 11) HF rfl rfl rfl (ef_alloc HS ze38) ?_; clear HF HS ac; rintro _ w ac ⟨g14, rfl, HS⟩ HF
                      replace HH := HS.d3
                      refine ⟨fun _ => HH, ?_⟩
                      refine dx_one (i := 13) (by kernel_rfl) ?_
                      refine op_ef0 (i := 13) HF rfl rfl (ef_store HS sz38 rfl rfl rfl) ?_; clear HS; rintro _ w HS
                      replace HH := HS.d3
                      refine ⟨fun _ => HH, ?_⟩
                      refine dx_one (i := 14) (by kernel_rfl) ?_
                      refine op_ef0 (i := 14) HF rfl rfl (ef_store HS sz38 rfl rfl rfl) ?_; clear HS; rintro _ w HS
                      replace HH := HS.d3
                      refine ⟨fun _ => HH, ?_⟩
                      refine dx_one (i := 15) (by kernel_rfl) ?_
                      refine op_ef0 (i := 15) HF rfl rfl (ef_store HS sz38 rfl rfl rfl) ?_; clear HS; rintro _ w HS
                      replace HH := HS.d3
                      refine ⟨fun _ => HH, ?_⟩
                      refine dx_done (by kernel_rfl) ?_
                      exact J _ _ ⟨_, _, _, HF.sub (by repeat (first | exact ag_nil | refine ag_cons rfl ?_)), HS.swap⟩
                  · refine op_ef (i := 11) HF rfl rfl rfl (ef_alloc HS ze38) ?_; clear HF HS ac; rintro _ w ac ⟨g14, rfl, HS⟩ HF
                    replace HH := HS.d2
                    refine ⟨fun _ => HH, ?_⟩
                    refine dx_two (i := 9) (j := 12) (by kernel_rfl) ?_ ?_
                    · refine op_call (i := 9) HF rfl Tryd.func39 (by kernel_rfl) (by kernel_rfl) (evs_cons rfl evs_nil) (HR3 w HS.kp) rfl rfl ?_; clear HF ac
                      rintro _ w ⟨rfl, k1⟩
                      refine ⟨_, rfl, fun ac HF => ?_⟩
                      replace HH := HH.call k1
                      replace HS := HS.call k1
                      clear k1
                      refine ⟨fun _ => HH, ?_⟩
                      refine dx_one (i := 12) (by kernel_rfl) ?_
                      refine op_ef (i := 12) HF rfl rfl rfl (ef_alloc HS ze38) ?_; clear HF HS ac; rintro _ w ac ⟨g15, rfl, HS⟩ HF
                      replace HH := HS.d3
                      refine ⟨fun _ => HH, ?_⟩
                      refine dx_one (i := 13) (by kernel_rfl) ?_
                      refine op_ef0 (i := 13) HF rfl rfl (ef_store HS sz38 rfl rfl rfl) ?_; clear HS; rintro _ w HS
                      replace HH := HS.d3
                      refine ⟨fun _ => HH, ?_⟩
                      refine dx_one (i := 14) (by kernel_rfl) ?_
                      refine op_ef0 (i := 14) HF rfl rfl (ef_store HS sz38 rfl rfl rfl) ?_; clear HS; rintro _ w HS
                      replace HH := HS.d3
                      refine ⟨fun _ => HH, ?_⟩
                      refine dx_one (i := 15) (by kernel_rfl) ?_
                      refine op_ef0 (i := 15) HF rfl rfl (ef_store HS sz38 rfl rfl rfl) ?_; clear HS; rintro _ w HS
                      replace HH := HS.d3
                      refine ⟨fun _ => HH, ?_⟩
                      refine dx_done (by kernel_rfl) ?_
                      exact J _ _ ⟨_, _, _, HF.sub (by repeat (first | exact ag_nil | refine ag_cons rfl ?_)), HS⟩
                    · refine op_ef (i := 12) HF rfl rfl rfl (ef_alloc HS ze38) ?_; clear HF HS ac; rintro _ w ac ⟨g15, rfl, HS⟩ HF
                      replace HH := HS.d3
                      refine ⟨fun _ => HH, ?_⟩
                      refine dx_one (i := 9) (by kernel_rfl) ?_
                      refine op_call (i := 9) HF rfl Tryd.func39 (by kernel_rfl) (by kernel_rfl) (evs_cons rfl evs_nil) (HR3 w HS.kp) rfl rfl ?_; clear HF ac
                      rintro _ w ⟨rfl, k1⟩
                      refine ⟨_, rfl, fun ac HF => ?_⟩
                      replace HH := HH.call k1
                      replace HS := HS.call k1
                      clear k1
                      refine ⟨fun _ => HH, ?_⟩
                      refine dx_one (i := 13) (by kernel_rfl) ?_
                      refine op_ef0 (i := 13) HF rfl rfl (ef_store HS sz38 rfl rfl rfl) ?_; clear HS; rintro _ w HS
                      replace HH := HS.d3
                      refine ⟨fun _ => HH, ?_⟩
                      refine dx_one (i := 14) (by kernel_rfl) ?_
                      refine op_ef0 (i := 14) HF rfl rfl (ef_store HS sz38 rfl rfl rfl) ?_; clear HS; rintro _ w HS
                      replace HH := HS.d3
                      refine ⟨fun _ => HH, ?_⟩
                      refine dx_one (i := 15) (by kernel_rfl) ?_
                      refine op_ef0 (i := 15) HF rfl rfl (ef_store HS sz38 rfl rfl rfl) ?_; clear HS; rintro _ w HS
                      replace HH := HS.d3
                      refine ⟨fun _ => HH, ?_⟩
                      refine dx_done (by kernel_rfl) ?_
                      exact J _ _ ⟨_, _, _, HF.sub (by repeat (first | exact ag_nil | refine ag_cons rfl ?_)), HS⟩
                  · refine op_ef (i := 12) HF rfl rfl rfl (ef_alloc HS ze38) ?_; clear HF HS ac; rintro _ w ac ⟨g15, rfl, HS⟩ HF
                    replace HH := HS.d2
                    refine ⟨fun _ => HH, ?_⟩
                    refine dx_two (i := 9) (j := 11) (by kernel_rfl) ?_ ?_
                    · refine op_call (i := 9) HF rfl Tryd.func39 (by kernel_rfl) (by kernel_rfl) (evs_cons rfl evs_nil) (HR3 w HS.kp) rfl rfl ?_; clear HF ac
                      rintro _ w ⟨rfl, k1⟩
                      refine ⟨_, rfl, fun ac HF => ?_⟩
                      replace HH := HH.call k1
                      replace HS := HS.call k1
                      clear k1
                      refine ⟨fun _ => HH, ?_⟩
                      refine dx_one (i := 11) (by kernel_rfl) ?_
                      refine op_ef (i := 11) HF rfl rfl rfl (ef_alloc HS ze38) ?_; clear HF HS ac; rintro _ w ac ⟨g14, rfl, HS⟩ HF
                      replace HH := HS.d3
                      refine ⟨fun _ => HH, ?_⟩
                      refine dx_one (i := 13) (by kernel_rfl) ?_
                      refine op_ef0 (i := 13) HF rfl rfl (ef_store HS sz38 rfl rfl rfl) ?_; clear HS; rintro _ w HS
                      replace HH := HS.d3
                      refine ⟨fun _ => HH, ?_⟩
                      refine dx_one (i := 14) (by kernel_rfl) ?_
                      refine op_ef0 (i := 14) HF rfl rfl (ef_store HS sz38 rfl rfl rfl) ?_; clear HS; rintro _ w HS
                      replace HH := HS.d3
                      refine ⟨fun _ => HH, ?_⟩
                      refine dx_one (i := 15) (by kernel_rfl) ?_
                      refine op_ef0 (i := 15) HF rfl rfl (ef_store HS sz38 rfl rfl rfl) ?_; clear HS; rintro _ w HS
                      replace HH := HS.d3
                      refine ⟨fun _ => HH, ?_⟩
                      refine dx_done (by kernel_rfl) ?_
                      exact J _ _ ⟨_, _, _, HF.sub (by repeat (first | exact ag_nil | refine ag_cons rfl ?_)), HS.swap⟩
                    · refine op_ef (i := 11) HF rfl rfl rfl (ef_alloc HS ze38) ?_; clear HF HS ac; rintro _ w ac ⟨g14, rfl, HS⟩ HF
                      replace HH := HS.d3
                      refine ⟨fun _ => HH, ?_⟩
                      refine dx_one (i := 9) (by kernel_rfl) ?_
                      refine op_call (i := 9) HF rfl Tryd.func39 (by kernel_rfl) (by kernel_rfl) (evs_cons rfl evs_nil) (HR3 w HS.kp) rfl rfl ?_; clear HF ac
                      rintro _ w ⟨rfl, k1⟩
                      refine ⟨_, rfl, fun ac HF => ?_⟩
                      replace HH := HH.call k1
                      replace HS := HS.call k1
                      clear k1
                      refine ⟨fun _ => HH, ?_⟩
                      refine dx_one (i := 13) (by kernel_rfl) ?_
                      refine op_ef0 (i := 13) HF rfl rfl (ef_store HS sz38 rfl rfl rfl) ?_; clear HS; rintro _ w HS
                      replace HH := HS.d3
                      refine ⟨fun _ => HH, ?_⟩
                      refine dx_one (i := 14) (by kernel_rfl) ?_
                      refine op_ef0 (i := 14) HF rfl rfl (ef_store HS sz38 rfl rfl rfl) ?_; clear HS; rintro _ w HS
                      replace HH := HS.d3
                      refine ⟨fun _ => HH, ?_⟩
                      refine dx_one (i := 15) (by kernel_rfl) ?_
                      refine op_ef0 (i := 15) HF rfl rfl (ef_store HS sz38 rfl rfl rfl) ?_; clear HS; rintro _ w HS
                      replace HH := HS.d3
                      refine ⟨fun _ => HH, ?_⟩
                      refine dx_done (by kernel_rfl) ?_
                      exact J _ _ ⟨_, _, _, HF.sub (by repeat (first | exact ag_nil | refine ag_cons rfl ?_)), HS.swap⟩
                · refine op_ef (i := 11) HF rfl rfl rfl (ef_alloc HS ze38) ?_; clear HF HS ac; rintro _ w ac ⟨g14, rfl, HS⟩ HF
                  replace HH := HS.d1
                  refine ⟨fun _ => HH, ?_⟩
                  refine dx_three (i := 9) (j := 10) (j2 := 12) (by kernel_rfl) ?_ ?_ ?_
                  · refine op_call (i := 9) HF rfl Tryd.func39 (by kernel_rfl) (by kernel_rfl) (evs_cons rfl evs_nil) (HR3 w HS.kp) rfl rfl ?_; clear HF ac
                    rintro _ w ⟨rfl, k1⟩
                    refine ⟨_, rfl, fun ac HF => ?_⟩
                    replace HH := HH.call k1
                    replace HS := HS.call k1
                    clear k1
                    refine ⟨fun _ => HH, ?_⟩
                    refine dx_two (i := 10) (j := 12) (by kernel_rfl) ?_ ?_
                    · refine op_ef (i := 10) HF rfl rfl rfl (ef_alloc HS ze38) ?_; clear HF HS ac; rintro _ w ac ⟨g13, rfl, HS⟩ HF
                      replace HH := HS.d2
                      refine ⟨fun _ => HH, ?_⟩
                      refine dx_one (i := 12) (by kernel_rfl) ?_
                      refine op_ef (i := 12) HF rfl rfl rfl (ef_alloc HS ze38) ?_; clear HF HS ac; rintro _ w ac ⟨g15, rfl, HS⟩ HF
                      replace HH := HS.d3
                      refine ⟨fun _ => HH, ?_⟩
                      refine dx_one (i := 13) (by kernel_rfl) ?_
                      refine op_ef0 (i := 13) HF rfl rfl (ef_store HS sz38 rfl rfl rfl) ?_; clear HS; rintro _ w HS
                      replace HH := HS.d3
                      refine ⟨fun _ => HH, ?_⟩
                      refine dx_one (i := 14) (by kernel_rfl) ?_
                      refine op_ef0 (i := 14) HF rfl rfl (ef_store HS sz38 rfl rfl rfl) ?_; clear HS; rintro _ w HS
                      replace HH := HS.d3
                      refine ⟨fun _ => HH, ?_⟩
                      refine dx_one (i := 15) (by kernel_rfl) ?_
                      refine op_ef0 (i := 15) HF rfl rfl (ef_store HS sz38 rfl rfl rfl) ?_; clear HS; rintro _ w HS
                      replace HH := HS.d3
                      refine ⟨fun _ => HH, ?_⟩
                      refine dx_done (by kernel_rfl) ?_
                      exact J _ _ ⟨_, _, _, HF.sub (by repeat (first | exact ag_nil | refine ag_cons rfl ?_)), HS.swap.rot⟩
                    · refine op_ef (i := 12) HF rfl rfl rfl (ef_alloc HS ze38) ?_; clear HF HS ac; rintro _ w ac ⟨g15, rfl, HS⟩ HF
                      replace HH := HS.d2
                      refine ⟨fun _ => HH, ?_⟩
                      refine dx_one (i := 10) (by kernel_rfl) ?_
                      refine op_ef (i := 10) HF rfl rfl rfl (ef_alloc HS ze38) ?_; clear HF HS ac; rintro _ w ac ⟨g13, rfl, HS⟩ HF
                      replace HH := HS.d3
                      refine ⟨fun _ => HH, ?_⟩
                      refine dx_one (i := 13) (by kernel_rfl) ?_
                      refine op_ef0 (i := 13) HF rfl rfl (ef_store HS sz38 rfl rfl rfl) ?_; clear HS; rintro _ w HS
                      replace HH := HS.d3
                      refine ⟨fun _ => HH, ?_⟩
                      refine dx_one (i := 14) (by kernel_rfl) ?_
                      refine op_ef0 (i := 14) HF rfl rfl (ef_store HS sz38 rfl rfl rfl) ?_; clear HS; rintro _ w HS
                      replace HH := HS.d3
                      refine ⟨fun _ => HH, ?_⟩
                      refine dx_one (i := 15) (by kernel_rfl) ?_
                      refine op_ef0 (i := 15) HF rfl rfl (ef_store HS sz38 rfl rfl rfl) ?_; clear HS; rintro _ w HS
                      replace HH := HS.d3
                      refine ⟨fun _ => HH, ?_⟩
                      refine dx_done (by kernel_rfl) ?_
                      exact J _ _ ⟨_, _, _, HF.sub (by repeat (first | exact ag_nil | refine ag_cons rfl ?_)), HS.rot⟩
                  · refine op_ef (i := 10) HF rfl rfl rfl (ef_alloc HS ze38) ?_; clear HF HS ac; rintro _ w ac ⟨g13, rfl, HS⟩ HF
                    replace HH := HS.d2
                    refine ⟨fun _ => HH, ?_⟩
                    refine dx_two (i := 9) (j := 12) (by kernel_rfl) ?_ ?_
                    · refine op_call (i := 9) HF rfl Tryd.func39 (by kernel_rfl) (by kernel_rfl) (evs_cons rfl evs_nil) (HR3 w HS.kp) rfl rfl ?_; clear HF ac
                      rintro _ w ⟨rfl, k1⟩
                      refine ⟨_, rfl, fun ac HF => ?_⟩
                      replace HH := HH.call k1
                      replace HS := HS.call k1
                      clear k1
                      refine ⟨fun _ => HH, ?_⟩
                      refine dx_one (i := 12) (by kernel_rfl) ?_
                      refine op_ef (i := 12) HF rfl rfl rfl (ef_alloc HS ze38) ?_; clear HF HS ac; rintro _ w ac ⟨g15, rfl, HS⟩ HF
                      replace HH := HS.d3
                      refine ⟨fun _ => HH, ?_⟩
                      refine dx_one (i := 13) (by kernel_rfl) ?_
                      refine op_ef0 (i := 13) HF rfl rfl (ef_store HS sz38 rfl rfl rfl) ?_; clear HS; rintro _ w HS
                      replace HH := HS.d3
                      refine ⟨fun _ => HH, ?_⟩
                      refine dx_one (i := 14) (by kernel_rfl) ?_
                      refine op_ef0 (i := 14) HF rfl rfl (ef_store HS sz38 rfl rfl rfl) ?_; clear HS; rintro _ w HS
                      replace HH := HS.d3
                      refine ⟨fun _ => HH, ?_⟩
                      refine dx_one (i := 15) (by kernel_rfl) ?_
                      refine op_ef0 (i := 15) HF rfl rfl (ef_store HS sz38 rfl rfl rfl) ?_; clear HS; rintro _ w HS
                      replace HH := HS.d3
                      refine ⟨fun _ => HH, ?_⟩
                      refine dx_done (by kernel_rfl) ?_
                      exact J _ _ ⟨_, _, _, HF.sub (by repeat (first | exact ag_nil | refine ag_cons rfl ?_)), HS.swap.rot⟩
                    · refine op_ef (i := 12) HF rfl rfl rfl (ef_alloc HS ze38) ?_; clear HF HS ac; rintro _ w ac ⟨g15, rfl, HS⟩ HF
                      replace HH := HS.d3
                      refine ⟨fun _ => HH, ?_⟩
                      refine dx_one (i := 9) (by kernel_rfl) ?_
                      refine op_call (i := 9) HF rfl Tryd.func39 (by kernel_rfl) (by kernel_rfl) (evs_cons rfl evs_nil) (HR3 w HS.kp) rfl rfl ?_; clear HF ac
                      rintro _ w ⟨rfl, k1⟩
                      refine ⟨_, rfl, fun ac HF => ?_⟩
                      replace HH := HH.call k1
                      replace HS := HS.call k1
                      clear k1
                      refine ⟨fun _ => HH, ?_⟩
                      refine dx_one (i := 13) (by kernel_rfl) ?_
                      refine op_ef0 (i := 13) HF rfl rfl (ef_store HS sz38 rfl rfl rfl) ?_; clear HS; rintro _ w HS
                      replace HH := HS.d3
                      refine ⟨fun _ => HH, ?_⟩
                      refine dx_one (i := 14) (by kernel_rfl) ?_
                      refine op_ef0 (i := 14) HF rfl rfl (ef_store HS sz38 rfl rfl rfl) ?_; clear HS; rintro _ w HS
                      replace HH := HS.d3
                      refine ⟨fun _ => HH, ?_⟩
                      refine dx_one (i := 15) (by kernel_rfl) ?_
                      refine op_ef0 (i := 15) HF rfl rfl (ef_store HS sz38 rfl rfl rfl) ?_; clear HS; rintro _ w HS
                      replace HH := HS.d3
                      refine ⟨fun _ => HH, ?_⟩
                      refine dx_done (by kernel_rfl) ?_
                      exact J _ _ ⟨_, _, _, HF.sub (by repeat (first | exact ag_nil | refine ag_cons rfl ?_)), HS.swap.rot⟩
                  · refine op_ef (i := 12) HF rfl rfl rfl (ef_alloc HS ze38) ?_; clear HF HS ac; rintro _ w ac ⟨g15, rfl, HS⟩ HF
                    replace HH := HS.d2
                    refine ⟨fun _ => HH, ?_⟩
                    refine dx_two (i := 9) (j := 10) (by kernel_rfl) ?_ ?_
                    · refine op_call (i := 9) HF rfl Tryd.func39 (by kernel_rfl) (by kernel_rfl) (evs_cons rfl evs_nil) (HR3 w HS.kp) rfl rfl ?_; clear HF ac
                      rintro _ w ⟨rfl, k1⟩
                      refine ⟨_, rfl, fun ac HF => ?_⟩
                      replace HH := HH.call k1
                      replace HS := HS.call k1
                      clear k1
                      refine ⟨fun _ => HH, ?_⟩
                      refine dx_one (i := 10) (by kernel_rfl) ?_
                      refine op_ef (i := 10) HF rfl rfl rfl (ef_alloc HS ze38) ?_; clear HF HS ac; rintro _ w ac ⟨g13, rfl, HS⟩ HF
                      replace HH := HS.d3
                      refine ⟨fun _ => HH, ?_⟩
                      refine dx_one (i := 13) (by kernel_rfl) ?_
                      refine op_ef0 (i := 13) HF rfl rfl (ef_store HS sz38 rfl rfl rfl) ?_; clear HS; rintro _ w HS
                      replace HH := HS.d3
                      refine ⟨fun _ => HH, ?_⟩
                      refine dx_one (i := 14) (by kernel_rfl) ?_
                      refine op_ef0 (i := 14) HF rfl rfl (ef_store HS sz38 rfl rfl rfl) ?_; clear HS; rintro _ w HS
                      replace HH := HS.d3
                      refine ⟨fun _ => HH, ?_⟩
                      refine dx_one (i := 15) (by kernel_rfl) ?_
                      refine op_ef0 (i := 15) HF rfl rfl (ef_store HS sz38 rfl rfl rfl) ?_; clear HS; rintro _ w HS
                      replace HH := HS.d3
                      refine ⟨fun _ => HH, ?_⟩
                      refine dx_done (by kernel_rfl) ?_
                      exact J _ _ ⟨_, _, _, HF.sub (by repeat (first | exact ag_nil | refine ag_cons rfl ?_)), HS.rot⟩
                    · refine op_ef (i := 10) HF rfl rfl rfl (ef_alloc HS ze38) ?_; clear HF HS ac; rintro _ w ac ⟨g13, rfl, HS⟩ HF
                      replace HH := HS.d3
                      refine ⟨fun _ => HH, ?_⟩
                      refine dx_one (i := 9) (by kernel_rfl) ?_
                      refine op_call (i := 9) HF rfl Tryd.func39 (by kernel_rfl) (by kernel_rfl) (evs_cons rfl evs_nil) (HR3 w HS.kp) rfl rfl ?_; clear HF ac
                      rintro _ w ⟨rfl, k1⟩
                      refine ⟨_, rfl, fun ac HF => ?_⟩
                      replace HH := HH.call k1
                      replace HS := HS.call k1
                      clear k1
                      refine ⟨fun _ => HH, ?_⟩
                      refine dx_one (i := 13) (by kernel_rfl) ?_
                      refine op_ef0 (i := 13) HF rfl rfl (ef_store HS sz38 rfl rfl rfl) ?_; clear HS; rintro _ w HS
                      replace HH := HS.d3
                      refine ⟨fun _ => HH, ?_⟩
                      refine dx_one (i := 14) (by kernel_rfl) ?_
                      refine op_ef0 (i := 14) HF rfl rfl (ef_store HS sz38 rfl rfl rfl) ?_; clear HS; rintro _ w HS
                      replace HH := HS.d3
                      refine ⟨fun _ => HH, ?_⟩
                      refine dx_one (i := 15) (by kernel_rfl) ?_
                      refine op_ef0 (i := 15) HF rfl rfl (ef_store HS sz38 rfl rfl rfl) ?_; clear HS; rintro _ w HS
                      replace HH := HS.d3
                      refine ⟨fun _ => HH, ?_⟩
                      refine dx_done (by kernel_rfl) ?_
                      exact J _ _ ⟨_, _, _, HF.sub (by repeat (first | exact ag_nil | refine ag_cons rfl ?_)), HS.rot⟩
                · refine op_ef (i := 12) HF rfl rfl rfl (ef_alloc HS ze38) ?_; clear HF HS ac; rintro _ w ac ⟨g15, rfl, HS⟩ HF
                  replace HH := HS.d1
                  refine ⟨fun _ => HH, ?_⟩
                  refine dx_three (i := 9) (j := 10) (j2 := 11) (by kernel_rfl) ?_ ?_ ?_
                  · refine op_call (i := 9) HF rfl Tryd.func39 (by kernel_rfl) (by kernel_rfl) (evs_cons rfl evs_nil) (HR3 w HS.kp) rfl rfl ?_; clear HF ac
                    rintro _ w ⟨rfl, k1⟩
                    refine ⟨_, rfl, fun ac HF => ?_⟩
                    replace HH := HH.call k1
                    replace HS := HS.call k1
                    clear k1
                    refine ⟨fun _ => HH, ?_⟩
                    refine dx_two (i := 10) (j := 11) (by kernel_rfl) ?_ ?_
                    · refine op_ef (i := 10) HF rfl rfl rfl (ef_alloc HS ze38) ?_; clear HF HS ac; rintro _ w ac ⟨g13, rfl, HS⟩ HF
                      replace HH := HS.d2
                      refine ⟨fun _ => HH, ?_⟩
                      refine dx_one (i := 11) (by kernel_rfl) ?_
                      refine op_ef (i := 11) HF rfl rfl rfl (ef_alloc HS ze38) ?_; clear HF HS ac; rintro _ w ac ⟨g14, rfl, HS⟩ HF
                      replace HH := HS.d3
                      refine ⟨fun _ => HH, ?_⟩
                      refine dx_one (i := 13) (by kernel_rfl) ?_
                      refine op_ef0 (i := 13) HF rfl rfl (ef_store HS sz38 rfl rfl rfl) ?_; clear HS; rintro _ w HS
                      replace HH := HS.d3
                      refine ⟨fun _ => HH, ?_⟩
                      refine dx_one (i := 14) (by kernel_rfl) ?_
                      refine op_ef0 (i := 14) HF rfl rfl (ef_store HS sz38 rfl rfl rfl) ?_; clear HS; rintro _ w HS
                      replace HH := HS.d3
                      refine ⟨fun _ => HH, ?_⟩
                      refine dx_one (i := 15) (by kernel_rfl) ?_
                      refine op_ef0 (i := 15) HF rfl rfl (ef_store HS sz38 rfl rfl rfl) ?_; clear HS; rintro _ w HS
                      replace HH := HS.d3
                      refine ⟨fun _ => HH, ?_⟩
                      refine dx_done (by kernel_rfl) ?_
                      exact J _ _ ⟨_, _, _, HF.sub (by repeat (first | exact ag_nil | refine ag_cons rfl ?_)), HS.rot.rot⟩
                    · refine op_ef (i := 11) HF rfl rfl rfl (ef_alloc HS ze38) ?_; clear HF HS ac; rintro _ w ac ⟨g14, rfl, HS⟩ HF
                      replace HH := HS.d2
                      refine ⟨fun _ => HH, ?_⟩
                      refine dx_one (i := 10) (by kernel_rfl) ?_
                      refine op_ef (i := 10) HF rfl rfl rfl (ef_alloc HS ze38) ?_; clear HF HS ac; rintro _ w ac ⟨g13, rfl, HS⟩ HF
                      replace HH := HS.d3
                      refine ⟨fun _ => HH, ?_⟩
                      refine dx_one (i := 13) (by kernel_rfl) ?_
                      refine op_ef0 (i := 13) HF rfl rfl (ef_store HS sz38 rfl rfl rfl) ?_; clear HS; rintro _ w HS
                      replace HH := HS.d3
                      refine ⟨fun _ => HH, ?_⟩
                      refine dx_one (i := 14) (by kernel_rfl) ?_
                      refine op_ef0 (i := 14) HF rfl rfl (ef_store HS sz38 rfl rfl rfl) ?_; clear HS; rintro _ w HS
                      replace HH := HS.d3
                      refine ⟨fun _ => HH, ?_⟩
                      refine dx_one (i := 15) (by kernel_rfl) ?_
                      refine op_ef0 (i := 15) HF rfl rfl (ef_store HS sz38 rfl rfl rfl) ?_; clear HS; rintro _ w HS
                      replace HH := HS.d3
                      refine ⟨fun _ => HH, ?_⟩
                      refine dx_done (by kernel_rfl) ?_
                      exact J _ _ ⟨_, _, _, HF.sub (by repeat (first | exact ag_nil | refine ag_cons rfl ?_)), HS.rot.swap⟩
                  · refine op_ef (i := 10) HF rfl rfl rfl (ef_alloc HS ze38) ?_; clear HF HS ac; rintro _ w ac ⟨g13, rfl, HS⟩ HF
                    replace HH := HS.d2
                    refine ⟨fun _ => HH, ?_⟩
                    refine dx_two (i := 9) (j := 11) (by kernel_rfl) ?_ ?_
                    · refine op_call (i := 9) HF rfl Tryd.func39 (by kernel_rfl) (by kernel_rfl) (evs_cons rfl evs_nil) (HR3 w HS.kp) rfl rfl ?_; clear HF ac
                      rintro _ w ⟨rfl, k1⟩
                      refine ⟨_, rfl, fun ac HF => ?_⟩
                      replace HH := HH.call k1
                      replace HS := HS.call k1
                      clear k1
                      refine ⟨fun _ => HH, ?_⟩
                      refine dx_one (i := 11) (by kernel_rfl) ?_
                      refine op_ef (i := 11) HF rfl rfl rfl (ef_alloc HS ze38) ?_; clear HF HS ac; rintro _ w ac ⟨g14, rfl, HS⟩ HF
                      replace HH := HS.d3
                      refine ⟨fun _ => HH, ?_⟩
                      refine dx_one (i := 13) (by kernel_rfl) ?_
                      refine op_ef0 (i := 13) HF rfl rfl (ef_store HS sz38 rfl rfl rfl) ?_; clear HS; rintro _ w HS
                      replace HH := HS.d3
                      refine ⟨fun _ => HH, ?_⟩
                      refine dx_one (i := 14) (by kernel_rfl) ?_
                      refine op_ef0 (i := 14) HF rfl rfl (ef_store HS sz38 rfl rfl rfl) ?_; clear HS; rintro _ w HS
                      replace HH := HS.d3
                      refine ⟨fun _ => HH, ?_⟩
                      refine dx_one (i := 15) (by kernel_rfl) ?_
                      refine op_ef0 (i := 15) HF rfl rfl (ef_store HS sz38 rfl rfl rfl) ?_; clear HS; rintro _ w HS
                      replace HH := HS.d3
                      refine ⟨fun _ => HH, ?_⟩
                      refine dx_done (by kernel_rfl) ?_
                      exact J _ _ ⟨_, _, _, HF.sub (by repeat (first | exact ag_nil | refine ag_cons rfl ?_)), HS.rot.rot⟩
                    · refine op_ef (i := 11) HF rfl rfl rfl (ef_alloc HS ze38) ?_; clear HF HS ac; rintro _ w ac ⟨g14, rfl, HS⟩ HF
                      replace HH := HS.d3
                      refine ⟨fun _ => HH, ?_⟩
                      refine dx_one (i := 9) (by kernel_rfl) ?_
                      refine op_call (i := 9) HF rfl Tryd.func39 (by kernel_rfl) (by kernel_rfl) (evs_cons rfl evs_nil) (HR3 w HS.kp) rfl rfl ?_; clear HF ac
                      rintro _ w ⟨rfl, k1⟩
                      refine ⟨_, rfl, fun ac HF => ?_⟩
                      replace HH := HH.call k1
                      replace HS := HS.call k1
                      clear k1
                      refine ⟨fun _ => HH, ?_⟩
                      refine dx_one (i := 13) (by kernel_rfl) ?_
                      refine op_ef0 (i := 13) HF rfl rfl (ef_store HS sz38 rfl rfl rfl) ?_; clear HS; rintro _ w HS
                      replace HH := HS.d3
                      refine ⟨fun _ => HH, ?_⟩
                      refine dx_one (i := 14) (by kernel_rfl) ?_
                      refine op_ef0 (i := 14) HF rfl rfl (ef_store HS sz38 rfl rfl rfl) ?_; clear HS; rintro _ w HS
                      replace HH := HS.d3
                      refine ⟨fun _ => HH, ?_⟩
                      refine dx_one (i := 15) (by kernel_rfl) ?_
                      refine op_ef0 (i := 15) HF rfl rfl (ef_store HS sz38 rfl rfl rfl) ?_; clear HS; rintro _ w HS
                      replace HH := HS.d3
                      refine ⟨fun _ => HH, ?_⟩
                      refine dx_done (by kernel_rfl) ?_
                      exact J _ _ ⟨_, _, _, HF.sub (by repeat (first | exact ag_nil | refine ag_cons rfl ?_)), HS.rot.rot⟩
                  · refine op_ef (i := 11) HF rfl rfl rfl (ef_alloc HS ze38) ?_; clear HF HS ac; rintro _ w ac ⟨g14, rfl, HS⟩ HF
                    replace HH := HS.d2
                    refine ⟨fun _ => HH, ?_⟩
                    refine dx_two (i := 9) (j := 10) (by kernel_rfl) ?_ ?_
                    · refine op_call (i := 9) HF rfl Tryd.func39 (by kernel_rfl) (by kernel_rfl) (evs_cons rfl evs_nil) (HR3 w HS.kp) rfl rfl ?_; clear HF ac
                      rintro _ w ⟨rfl, k1⟩
                      refine ⟨_, rfl, fun ac HF => ?_⟩
                      replace HH := HH.call k1
                      replace HS := HS.call k1
                      clear k1
                      refine ⟨fun _ => HH, ?_⟩
                      refine dx_one (i := 10) (by kernel_rfl) ?_
                      refine op_ef (i := 10) HF rfl rfl rfl (ef_alloc HS ze38) ?_; clear HF HS ac; rintro _ w ac ⟨g13, rfl, HS⟩ HF
                      replace HH := HS.d3
                      refine ⟨fun _ => HH, ?_⟩
                      refine dx_one (i := 13) (by kernel_rfl) ?_
                      refine op_ef0 (i := 13) HF rfl rfl (ef_store HS sz38 rfl rfl rfl) ?_; clear HS; rintro _ w HS
                      replace HH := HS.d3
                      refine ⟨fun _ => HH, ?_⟩
                      refine dx_one (i := 14) (by kernel_rfl) ?_
                      refine op_ef0 (i := 14) HF rfl rfl (ef_store HS sz38 rfl rfl rfl) ?_; clear HS; rintro _ w HS
                      replace HH := HS.d3
                      refine ⟨fun _ => HH, ?_⟩
                      refine dx_one (i := 15) (by kernel_rfl) ?_
                      refine op_ef0 (i := 15) HF rfl rfl (ef_store HS sz38 rfl rfl rfl) ?_; clear HS; rintro _ w HS
                      replace HH := HS.d3
                      refine ⟨fun _ => HH, ?_⟩
                      refine dx_done (by kernel_rfl) ?_
                      exact J _ _ ⟨_, _, _, HF.sub (by repeat (first | exact ag_nil | refine ag_cons rfl ?_)), HS.rot.swap⟩
                    · refine op_ef (i := 10) HF rfl rfl rfl (ef_alloc HS ze38) ?_; clear HF HS ac; rintro _ w ac ⟨g13, rfl, HS⟩ HF
                      replace HH := HS.d3
                      refine ⟨fun _ => HH, ?_⟩
                      refine dx_one (i := 9) (by kernel_rfl) ?_
                      refine op_call (i := 9) HF rfl Tryd.func39 (by kernel_rfl) (by kernel_rfl) (evs_cons rfl evs_nil) (HR3 w HS.kp) rfl rfl ?_; clear HF ac
                      rintro _ w ⟨rfl, k1⟩
                      refine ⟨_, rfl, fun ac HF => ?_⟩
                      replace HH := HH.call k1
                      replace HS := HS.call k1
                      clear k1
                      refine ⟨fun _ => HH, ?_⟩
                      refine dx_one (i := 13) (by kernel_rfl) ?_
                      refine op_ef0 (i := 13) HF rfl rfl (ef_store HS sz38 rfl rfl rfl) ?_; clear HS; rintro _ w HS
                      replace HH := HS.d3
                      refine ⟨fun _ => HH, ?_⟩
                      refine dx_one (i := 14) (by kernel_rfl) ?_
                      refine op_ef0 (i := 14) HF rfl rfl (ef_store HS sz38 rfl rfl rfl) ?_; clear HS; rintro _ w HS
                      replace HH := HS.d3
                      refine ⟨fun _ => HH, ?_⟩
                      refine dx_one (i := 15) (by kernel_rfl) ?_
                      refine op_ef0 (i := 15) HF rfl rfl (ef_store HS sz38 rfl rfl rfl) ?_; clear HS; rintro _ w HS
                      replace HH := HS.d3
                      refine ⟨fun _ => HH, ?_⟩
                      refine dx_done (by kernel_rfl) ?_
                      exact J _ _ ⟨_, _, _, HF.sub (by repeat (first | exact ag_nil | refine ag_cons rfl ?_)), HS.rot.swap⟩
              · refine op_ef (i := 10) HF rfl rfl rfl (ef_alloc HS ze38) ?_; clear HF HS ac; rintro _ w ac ⟨g13, rfl, HS⟩ HF
                replace HH := HS.d1
                refine ⟨fun _ => HH, ?_⟩
                refine dx_three (i := 7) (j := 11) (j2 := 12) (by kernel_rfl) ?_ ?_ ?_
                · refine op_call (i := 7) HF rfl Tryd.func39 (by kernel_rfl) (by kernel_rfl) (evs_cons rfl evs_nil) (HR2 w HS.kp) rfl rfl ?_; clear HF ac
                  rintro _ w ⟨rfl, k1⟩
                  refine ⟨_, rfl, fun ac HF => ?_⟩
                  replace HH := HH.call k1
                  replace HS := HS.call k1
                  clear k1
                  refine ⟨fun _ => HH, ?_⟩
                  refine dx_three (i := 9) (j := 11) (j2 := 12) (by kernel_rfl) ?_ ?_ ?_
                  · refine op_call (i := 9) HF rfl Tryd.func39 (by kernel_rfl) (by kernel_rfl) (evs_cons rfl evs_nil) (HR3 w HS.kp) rfl rfl ?_; clear HF ac
                    rintro _ w ⟨rfl, k1⟩
                    refine ⟨_, rfl, fun ac HF => ?_⟩
                    replace HH := HH.call k1
                    replace HS := HS.call k1
                    clear k1
                    refine ⟨fun _ => HH, ?_⟩
                    refine dx_two (i := 11) (j := 12) (by kernel_rfl) ?_ ?_
                    · refine op_ef (i := 11) HF rfl rfl rfl (ef_alloc HS ze38) ?_; clear HF HS ac; rintro _ w ac ⟨g14, rfl, HS⟩ HF
                      replace HH := HS.d2
                      refine ⟨fun _ => HH, ?_⟩
                      refine dx_one (i := 12) (by kernel_rfl) ?_
                      refine op_ef (i := 12) HF rfl rfl rfl (ef_alloc HS ze38) ?_; clear HF HS ac; rintro _ w ac ⟨g15, rfl, HS⟩ HF
                      replace HH := HS.d3
                      refine ⟨fun _ => HH, ?_⟩
                      refine dx_one (i := 13) (by kernel_rfl) ?_
                      refine op_ef0 (i := 13) HF rfl rfl (ef_store HS sz38 rfl rfl rfl) ?_; clear HS; rintro _ w HS
                      replace HH := HS.d3
                      refine ⟨fun _ => HH, ?_⟩
                      refine dx_one (i := 14) (by kernel_rfl) ?_
                      refine op_ef0 (i := 14) HF rfl rfl (ef_store HS sz38 rfl rfl rfl) ?_; clear HS; rintro _ w HS
                      replace HH := HS.d3
                      refine ⟨fun _ => HH, ?_⟩
                      refine dx_one (i := 15) (by kernel_rfl) ?_
                      refine op_ef0 (i := 15) HF rfl rfl (ef_store HS sz38 rfl rfl rfl) ?_; clear HS; rintro _ w HS
                      replace HH := HS.d3
                      refine ⟨fun _ => HH, ?_⟩
                      refine dx_done (by kernel_rfl) ?_
                      exact J _ _ ⟨_, _, _, HF.sub (by repeat (first | exact ag_nil | refine ag_cons rfl ?_)), HS⟩
                    · refine op_ef (i := 12) HF rfl rfl rfl (ef_alloc HS ze38) ?_; clear HF HS ac; rintro _ w ac ⟨g15, rfl, HS⟩ HF
                      replace HH := HS.d2
                      refine ⟨fun _ => HH, ?_⟩
                      refine dx_one (i := 11) (by kernel_rfl) ?_
                      refine op_ef (i := 11) HF rfl rfl rfl (ef_alloc HS ze38) ?_; clear HF HS ac; rintro _ w ac ⟨g14, rfl, HS⟩ HF
                      replace HH := HS.d3
                      refine ⟨fun _ => HH, ?_⟩
                      refine dx_one (i := 13) (by kernel_rfl) ?_
                      refine op_ef0 (i := 13) HF rfl rfl (ef_store HS sz38 rfl rfl rfl) ?_; clear HS; rintro _ w HS
                      replace HH := HS.d3
                      refine ⟨fun _ => HH, ?_⟩
                      refine dx_one (i := 14) (by kernel_rfl) ?_
                      refine op_ef0 (i := 14) HF rfl rfl (ef_store HS sz38 rfl rfl rfl) ?_; clear HS; rintro _ w HS
                      replace HH := HS.d3
                      refine ⟨fun _ => HH, ?_⟩
                      refine dx_one (i := 15) (by kernel_rfl) ?_
                      refine op_ef0 (i := 15) HF rfl rfl (ef_store HS sz38 rfl rfl rfl) ?_; clear HS; rintro _ w HS
                      replace HH := HS.d3
                      refine ⟨fun _ => HH, ?_⟩
                      refine dx_done (by kernel_rfl) ?_
                      exact J _ _ ⟨_, _, _, HF.sub (by repeat (first | exact ag_nil | refine ag_cons rfl ?_)), HS.swap⟩
                  · refine op_ef (i := 11) HF rfl rfl rfl (ef_alloc HS ze38) ?_; clear HF HS ac; rintro _ w ac ⟨g14, rfl, HS⟩ HF
                    replace HH := HS.d2
                    refine ⟨fun _ => HH, ?_⟩
                    refine dx_two (i := 9) (j := 12) (by kernel_rfl) ?_ ?_
                    · refine op_call (i := 9) HF rfl Tryd.func39 (by kernel_rfl) (by kernel_rfl) (evs_cons rfl evs_nil) (HR3 w HS.kp) rfl rfl ?_; clear HF ac
                      rintro _ w ⟨rfl, k1⟩
                      refine ⟨_, rfl, fun ac HF => ?_⟩
                      replace HH := HH.call k1
                      replace HS := HS.call k1
                      clear k1
                      refine ⟨fun _ => HH, ?_⟩
                      refine dx_one (i := 12) (by kernel_rfl) ?_
                      refine op_ef (i := 12) HF rfl rfl rfl (ef_alloc HS ze38) ?_; clear HF HS ac; rintro _ w ac ⟨g15, rfl, HS⟩ HF
                      replace HH := HS.d3
                      refine ⟨fun _ => HH, ?_⟩
                      refine dx_one (i := 13) (by kernel_rfl) ?_
                      refine op_ef0 (i := 13) HF rfl rfl (ef_store HS sz38 rfl rfl rfl) ?_; clear HS; rintro _ w HS
                      replace HH := HS.d3
                      refine ⟨fun _ => HH, ?_⟩
                      refine dx_one (i := 14) (by kernel_rfl) ?_
                      refine op_ef0 (i := 14) HF rfl rfl (ef_store HS sz38 rfl rfl rfl) ?_; clear HS; rintro _ w HS
                      replace HH := HS.d3
                      refine ⟨fun _ => HH, ?_⟩
                      refine dx_one (i := 15) (by kernel_rfl) ?_
                      refine op_ef0 (i := 15) HF rfl rfl (ef_store HS sz38 rfl rfl rfl) ?_; clear HS; rintro _ w HS
                      replace HH := HS.d3
                      refine ⟨fun _ => HH, ?_⟩
                      refine dx_done (by kernel_rfl) ?_
                      exact J _ _ ⟨_, _, _, HF.sub (by repeat (first | exact ag_nil | refine ag_cons rfl ?_)), HS⟩
                    · refine op_ef (i := 12) HF rfl rfl rfl (ef_alloc HS ze38) ?_; clear HF HS ac; rintro _ w ac ⟨g15, rfl, HS⟩ HF
                      replace HH := HS.d3
                      refine ⟨fun _ => HH, ?_⟩
                      refine dx_one (i := 9) (by kernel_rfl) ?_
                      refine op_call (i := 9) HF rfl Tryd.func39 (by kernel_rfl) (by kernel_rfl) (evs_cons rfl evs_nil) (HR3 w HS.kp) rfl rfl ?_; clear HF ac
                      rintro _ w ⟨rfl, k1⟩
                      refine ⟨_, rfl, fun ac HF => ?_⟩
                      replace HH := HH.call k1
                      replace HS := HS.call k1
                      clear k1
                      refine ⟨fun _ => HH, ?_⟩
                      refine dx_one (i := 13) (by kernel_rfl) ?_
                      refine op_ef0 (i := 13) HF rfl rfl (ef_store HS sz38 rfl rfl rfl) ?_; clear HS; rintro _ w HS
                      replace HH := HS.d3
                      refine ⟨fun _ => HH, ?_⟩
                      refine dx_one (i := 14) (by kernel_rfl) ?_
                      refine op_ef0 (i := 14) HF rfl rfl (ef_store HS sz38 rfl rfl rfl) ?_; clear HS; rintro _ w HS
                      replace HH := HS.d3
                      refine ⟨fun _ => HH, ?_⟩
                      refine dx_one (i := 15) (by kernel_rfl) ?_
                      refine op_ef0 (i := 15) HF rfl rfl (ef_store HS sz38 rfl rfl rfl) ?_; clear HS; rintro _ w HS
                      replace HH := HS.d3
                      refine ⟨fun _ => HH, ?_⟩
                      refine dx_done (by kernel_rfl) ?_
                      exact J _ _ ⟨_, _, _, HF.sub (by repeat (first | exact ag_nil | refine ag_cons rfl ?_)), HS⟩
                  · refine op_ef (i := 12) HF rfl rfl rfl (ef_alloc HS ze38) ?_; clear HF HS ac; rintro _ w ac ⟨g15, rfl, HS⟩ HF
                    replace HH := HS.d2
                    refine ⟨fun _ => HH, ?_⟩
                    refine dx_two (i := 9) (j := 11) (by kernel_rfl) ?_ ?_
                    · refine op_call (i := 9) HF rfl Tryd.func39 (by kernel_rfl) (by kernel_rfl) (evs_cons rfl evs_nil) (HR3 w HS.kp) rfl rfl ?_; clear HF ac
                      rintro _ w ⟨rfl, k1⟩
                      refine ⟨_, rfl, fun ac HF => ?_⟩
                      replace HH := HH.call k1
                      replace HS := HS.call k1
                      clear k1
                      refine ⟨fun _ => HH, ?_⟩
                      refine dx_one (i := 11) (by kernel_rfl) ?_
                      refine op_ef (i := 11) HF rfl rfl rfl (ef_alloc HS ze38) ?_; clear HF HS ac; rintro _ w ac ⟨g14, rfl, HS⟩ HF
                      replace HH := HS.d3
                      refine ⟨fun _ => HH, ?_⟩
                      refine dx_one (i := 13) (by kernel_rfl) ?_
                      refine op_ef0 (i := 13) HF rfl rfl (ef_store HS sz38 rfl rfl rfl) ?_; clear HS; rintro _ w HS
                      replace HH := HS.d3
                      refine ⟨fun _ => HH, ?_⟩
                      refine dx_one (i := 14) (by kernel_rfl) ?_
                      refine op_ef0 (i := 14) HF rfl rfl (ef_store HS sz38 rfl rfl rfl) ?_; clear HS; rintro _ w HS
                      replace HH := HS.d3
                      refine ⟨fun _ => HH, ?_⟩
                      refine dx_one (i := 15) (by kernel_rfl) ?_
                      refine op_ef0 (i := 15) HF rfl rfl (ef_store HS sz38 rfl rfl rfl) ?_; clear HS; rintro _ w HS
                      replace HH := HS.d3
                      refine ⟨fun _ => HH, ?_⟩
                      refine dx_done (by kernel_rfl) ?_
                      exact J _ _ ⟨_, _, _, HF.sub (by repeat (first | exact ag_nil | refine ag_cons rfl ?_)), HS.swap⟩
                    · refine op_ef (i := 11) HF rfl rfl rfl (ef_alloc HS ze38) ?_; clear HF HS ac; rintro _ w ac ⟨g14, rfl, HS⟩ HF
                      replace HH := HS.d3
                      refine ⟨fun _ => HH, ?_⟩
                      refine dx_one (i := 9) (by kernel_rfl) ?_
                      refine op_call (i := 9) HF rfl Tryd.func39 (by kernel_rfl) (by kernel_rfl) (evs_cons rfl evs_nil) (HR3 w HS.kp) rfl rfl ?_; clear HF ac
                      rintro _ w ⟨rfl, k1⟩
                      refine ⟨_, rfl, fun ac HF => ?_⟩
                      replace HH := HH.call k1
                      replace HS := HS.call k1
                      clear k1
                      refine ⟨fun _ => HH, ?_⟩
                      refine dx_one (i := 13) (by kernel_rfl) ?_
                      refine op_ef0 (i := 13) HF rfl rfl (ef_store HS sz38 rfl rfl rfl) ?_; clear HS; rintro _ w HS
                      replace HH := HS.d3
                      refine ⟨fun _ => HH, ?_⟩
                      refine dx_one (i := 14) (by kernel_rfl) ?_
                      refine op_ef0 (i := 14) HF rfl rfl (ef_store HS sz38 rfl rfl rfl) ?_; clear HS; rintro _ w HS
                      replace HH := HS.d3
                      refine ⟨fun _ => HH, ?_⟩
                      refine dx_one (i := 15) (by kernel_rfl) ?_
                      refine op_ef0 (i := 15) HF rfl rfl (ef_store HS sz38 rfl rfl rfl) ?_; clear HS; rintro _ w HS
                      replace HH := HS.d3
                      refine ⟨fun _ => HH, ?_⟩
                      refine dx_done (by kernel_rfl) ?_
                      exact J _ _ ⟨_, _, _, HF.sub (by repeat (first | exact ag_nil | refine ag_cons rfl ?_)), HS.swap⟩
                · refine op_ef (i := 11) HF rfl rfl rfl (ef_alloc HS ze38) ?_; clear HF HS ac; rintro _ w ac ⟨g14, rfl, HS⟩ HF
                  replace HH := HS.d2
                  refine ⟨fun _ => HH, ?_⟩
                  refine dx_two (i := 7) (j := 12) (by kernel_rfl) ?_ ?_
                  · refine op_call (i := 7) HF rfl Tryd.func39 (by kernel_rfl) (by kernel_rfl) (evs_cons rfl evs_nil) (HR2 w HS.kp) rfl rfl ?_; clear HF ac
                    rintro _ w ⟨rfl, k1⟩
                    refine ⟨_, rfl, fun ac HF => ?_⟩
                    replace HH := HH.call k1
                    replace HS := HS.call k1
                    clear k1
                    refine ⟨fun _ => HH, ?_⟩
                    refine dx_two (i := 9) (j := 12) (by kernel_rfl) ?_ ?_
                    · refine op_call (i := 9) HF rfl Tryd.func39 (by kernel_rfl) (by kernel_rfl) (evs_cons rfl evs_nil) (HR3 w HS.kp) rfl rfl ?_; clear HF ac
                      rintro _ w ⟨rfl, k1⟩
                      refine ⟨_, rfl, fun ac HF => ?_⟩
                      replace HH := HH.call k1
                      replace HS := HS.call k1
                      clear k1
                      refine ⟨fun _ => HH, ?_⟩
                      refine dx_one (i := 12) (by kernel_rfl) ?_
                      refine op_ef (i := 12) HF rfl rfl rfl (ef_alloc HS ze38) ?_; clear HF HS ac; rintro _ w ac ⟨g15, rfl, HS⟩ HF
                      replace HH := HS.d3
                      refine ⟨fun _ => HH, ?_⟩
                      refine dx_one (i := 13) (by kernel_rfl) ?_
                      refine op_ef0 (i := 13) HF rfl rfl (ef_store HS sz38 rfl rfl rfl) ?_; clear HS; rintro _ w HS
                      replace HH := HS.d3
                      refine ⟨fun _ => HH, ?_⟩
                      refine dx_one (i := 14) (by kernel_rfl) ?_
                      refine op_ef0 (i := 14) HF rfl rfl (ef_store HS sz38 rfl rfl rfl) ?_; clear HS; rintro _ w HS
                      replace HH := HS.d3
                      refine ⟨fun _ => HH, ?_⟩
                      refine dx_one (i := 15) (by kernel_rfl) ?_
                      refine op_ef0 (i := 15) HF rfl rfl (ef_store HS sz38 rfl rfl rfl) ?_; clear HS; rintro _ w HS
                      replace HH := HS.d3
                      refine ⟨fun _ => HH, ?_⟩
                      refine dx_done (by kernel_rfl) ?_
                      exact J _ _ ⟨_, _, _, HF.sub (by repeat (first | exact ag_nil | refine ag_cons rfl ?_)), HS⟩
                    · refine op_ef (i := 12) HF rfl rfl rfl (ef_alloc HS ze38) ?_; clear HF HS ac; rintro _ w ac ⟨g15, rfl, HS⟩ HF
                      replace HH := HS.d3
                      refine ⟨fun _ => HH, ?_⟩
                      refine dx_one (i := 9) (by kernel_rfl) ?_
                      refine op_call (i := 9) HF rfl Tryd.func39 (by kernel_rfl) (by kernel_rfl) (evs_cons rfl evs_nil) (HR3 w HS.kp) rfl rfl ?_; clear HF ac
                      rintro _ w ⟨rfl, k1⟩
                      refine ⟨_, rfl, fun ac HF => ?_⟩
                      replace HH := HH.call k1
                      replace HS := HS.call k1
                      clear k1
                      refine ⟨fun _ => HH, ?_⟩
                      refine dx_one (i := 13) (by kernel_rfl) ?_
                      refine op_ef0 (i := 13) HF rfl rfl (ef_store HS sz38 rfl rfl rfl) ?_; clear HS; rintro _ w HS
                      replace HH := HS.d3
                      refine ⟨fun _ => HH, ?_⟩
                      refine dx_one (i := 14) (by kernel_rfl) ?_
                      refine op_ef0 (i := 14) HF rfl rfl (ef_store HS sz38 rfl rfl rfl) ?_; clear HS; rintro _ w HS
                      replace HH := HS.d3
                      refine ⟨fun _ => HH, ?_⟩
                      refine dx_one (i := 15) (by kernel_rfl) ?_
                      refine op_ef0 (i := 15) HF rfl rfl (ef_store HS sz38 rfl rfl rfl) ?_; clear HS; rintro _ w HS
                      replace HH := HS.d3
                      refine ⟨fun _ => HH, ?_⟩
                      refine dx_done (by kernel_rfl) ?_
                      exact J _ _ ⟨_, _, _, HF.sub (by repeat (first | exact ag_nil | refine ag_cons rfl ?_)), HS⟩
                  · refine op_ef (i := 12) HF rfl rfl rfl (ef_alloc HS ze38) ?_; clear HF HS ac; rintro _ w ac ⟨g15, rfl, HS⟩ HF
                    replace HH := HS.d3
                    refine ⟨fun _ => HH, ?_⟩
                    refine dx_one (i := 7) (by kernel_rfl) ?_
                    refine op_call (i := 7) HF rfl Tryd.func39 (by kernel_rfl) (by kernel_rfl) (evs_cons rfl evs_nil) (HR2 w HS.kp) rfl rfl ?_; clear HF ac
                    rintro _ w ⟨rfl, k1⟩
                    refine ⟨_, rfl, fun ac HF => ?_⟩
                    replace HH := HH.call k1
                    replace HS := HS.call k1
                    clear k1
                    refine ⟨fun _ => HH, ?_⟩
                    refine dx_one (i := 9) (by kernel_rfl) ?_
                    refine op_call (i := 9) HF rfl Tryd.func39 (by kernel_rfl) (by kernel_rfl) (evs_cons rfl evs_nil) (HR3 w HS.kp) rfl rfl ?_; clear HF ac
                    rintro _ w ⟨rfl, k1⟩
                    refine ⟨_, rfl, fun ac HF => ?_⟩
                    replace HH := HH.call k1
                    replace HS := HS.call k1
                    clear k1
                    refine ⟨fun _ => HH, ?_⟩
                    refine dx_one (i := 13) (by kernel_rfl) ?_
                    refine op_ef0 (i := 13) HF rfl rfl (ef_store HS sz38 rfl rfl rfl) ?_; clear HS; rintro _ w HS
                    replace HH := HS.d3
                    refine ⟨fun _ => HH, ?_⟩
                    refine dx_one (i := 14) (by kernel_rfl) ?_
                    refine op_ef0 (i := 14) HF rfl rfl (ef_store HS sz38 rfl rfl rfl) ?_; clear HS; rintro _ w HS
                    replace HH := HS.d3
                    refine ⟨fun _ => HH, ?_⟩
                    refine dx_one (i := 15) (by kernel_rfl) ?_
                    refine op_ef0 (i := 15) HF rfl rfl (ef_store HS sz38 rfl rfl rfl) ?_; clear HS; rintro _ w HS
                    replace HH := HS.d3
                    refine ⟨fun _ => HH, ?_⟩
                    refine dx_done (by kernel_rfl) ?_
                    exact J _ _ ⟨_, _, _, HF.sub (by repeat (first | exact ag_nil | refine ag_cons rfl ?_)), HS⟩
                · refine op_ef (i := 12) HF rfl rfl rfl (ef_alloc HS ze38) ?_; clear HF HS ac; rintro _ w ac ⟨g15, rfl, HS⟩ HF
                  replace HH := HS.d2
                  refine ⟨fun _ => HH, ?_⟩
                  refine dx_two (i := 7) (j := 11) (by kernel_rfl) ?_ ?_
                  · refine op_call (i := 7) HF rfl Tryd.func39 (by kernel_rfl) (by kernel_rfl) (evs_cons rfl evs_nil) (HR2 w HS.kp) rfl rfl ?_; clear HF ac
                    rintro _ w ⟨rfl, k1⟩
                    refine ⟨_, rfl, fun ac HF => ?_⟩
                    replace HH := HH.call k1
                    replace HS := HS.call k1
                    clear k1
                    refine ⟨fun _ => HH, ?_⟩
                    refine dx_two (i := 9) (j := 11) (by kernel_rfl) ?_ ?_
                    · refine op_call (i := 9) HF rfl Tryd.func39 (by kernel_rfl) (by kernel_rfl) (evs_cons rfl evs_nil) (HR3 w HS.kp) rfl rfl ?_; clear HF ac
                      rintro _ w ⟨rfl, k1⟩
                      refine ⟨_, rfl, fun ac HF => ?_⟩
                      replace HH := HH.call k1
                      replace HS := HS.call k1
                      clear k1
                      refine ⟨fun _ => HH, ?_⟩
                      refine dx_one (i := 11) (by kernel_rfl) ?_
                      refine op_ef (i := 11) HF rfl rfl rfl (ef_alloc HS ze38) ?_; clear HF HS ac; rintro _ w ac ⟨g14, rfl, HS⟩ HF
                      replace HH := HS.d3
                      refine ⟨fun _ => HH, ?_⟩
                      refine dx_one (i := 13) (by kernel_rfl) ?_
                      refine op_ef0 (i := 13) HF rfl rfl (ef_store HS sz38 rfl rfl rfl) ?_; clear HS; rintro _ w HS
                      replace HH := HS.d3
                      refine ⟨fun _ => HH, ?_⟩
                      refine dx_one (i := 14) (by kernel_rfl) ?_
                      refine op_ef0 (i := 14) HF rfl rfl (ef_store HS sz38 rfl rfl rfl) ?_; clear HS; rintro _ w HS
                      replace HH := HS.d3
                      refine ⟨fun _ => HH, ?_⟩
                      refine dx_one (i := 15) (by kernel_rfl) ?_
                      refine op_ef0 (i := 15) HF rfl rfl (ef_store HS sz38 rfl rfl rfl) ?_; clear HS; rintro _ w HS
                      replace HH := HS.d3
                      refine ⟨fun _ => HH, ?_⟩
                      refine dx_done (by kernel_rfl) ?_
                      exact J _ _ ⟨_, _, _, HF.sub (by repeat (first | exact ag_nil | refine ag_cons rfl ?_)), HS.swap⟩
                    · refine op_ef (i := 11) HF rfl rfl rfl (ef_alloc HS ze38) ?_; clear HF HS ac; rintro _ w ac ⟨g14, rfl, HS⟩ HF
                      replace HH := HS.d3
                      refine ⟨fun _ => HH, ?_⟩
                      refine dx_one (i := 9) (by kernel_rfl) ?_
                      refine op_call (i := 9) HF rfl Tryd.func39 (by kernel_rfl) (by kernel_rfl) (evs_cons rfl evs_nil) (HR3 w HS.kp) rfl rfl ?_; clear HF ac
                      rintro _ w ⟨rfl, k1⟩
                      refine ⟨_, rfl, fun ac HF => ?_⟩
                      replace HH := HH.call k1
                      replace HS := HS.call k1
                      clear k1
                      refine ⟨fun _ => HH, ?_⟩
                      refine dx_one (i := 13) (by kernel_rfl) ?_
                      refine op_ef0 (i := 13) HF rfl rfl (ef_store HS sz38 rfl rfl rfl) ?_; clear HS; rintro _ w HS
                      replace HH := HS.d3
                      refine ⟨fun _ => HH, ?_⟩
                      refine dx_one (i := 14) (by kernel_rfl) ?_
                      refine op_ef0 (i := 14) HF rfl rfl (ef_store HS sz38 rfl rfl rfl) ?_; clear HS; rintro _ w HS
                      replace HH := HS.d3
                      refine ⟨fun _ => HH, ?_⟩
                      refine dx_one (i := 15) (by kernel_rfl) ?_
                      refine op_ef0 (i := 15) HF rfl rfl (ef_store HS sz38 rfl rfl rfl) ?_; clear HS; rintro _ w HS
                      replace HH := HS.d3
                      refine ⟨fun _ => HH, ?_⟩
                      refine dx_done (by kernel_rfl) ?_
                      exact J _ _ ⟨_, _, _, HF.sub (by repeat (first | exact ag_nil | refine ag_cons rfl ?_)), HS.swap⟩
                  · refine op_ef (i := 11) HF rfl rfl rfl (ef_alloc HS ze38) ?_; clear HF HS ac; rintro _ w ac ⟨g14, rfl, HS⟩ HF
                    replace HH := HS.d3
                    refine ⟨fun _ => HH, ?_⟩
                    refine dx_one (i := 7) (by kernel_rfl) ?_
                    refine op_call (i := 7) HF rfl Tryd.func39 (by kernel_rfl) (by kernel_rfl) (evs_cons rfl evs_nil) (HR2 w HS.kp) rfl rfl ?_; clear HF ac
                    rintro _ w ⟨rfl, k1⟩
                    refine ⟨_, rfl, fun ac HF => ?_⟩
                    replace HH := HH.call k1
                    replace HS := HS.call k1
                    clear k1
                    refine ⟨fun _ => HH, ?_⟩
                    refine dx_one (i := 9) (by kernel_rfl) ?_
                    refine op_call (i := 9) HF rfl Tryd.func39 (by kernel_rfl) (by kernel_rfl) (evs_cons rfl evs_nil) (HR3 w HS.kp) rfl rfl ?_; clear HF ac
                    rintro _ w ⟨rfl, k1⟩
                    refine ⟨_, rfl, fun ac HF => ?_⟩
                    replace HH := HH.call k1
                    replace HS := HS.call k1
                    clear k1
                    refine ⟨fun _ => HH, ?_⟩
                    refine dx_one (i := 13) (by kernel_rfl) ?_
                    refine op_ef0 (i := 13) HF rfl rfl (ef_store HS sz38 rfl rfl rfl) ?_; clear HS; rintro _ w HS
                    replace HH := HS.d3
                    refine ⟨fun _ => HH, ?_⟩
                    refine dx_one (i := 14) (by kernel_rfl) ?_
                    refine op_ef0 (i := 14) HF rfl rfl (ef_store HS sz38 rfl rfl rfl) ?_; clear HS; rintro _ w HS
                    replace HH := HS.d3
                    refine ⟨fun _ => HH, ?_⟩
                    refine dx_one (i := 15) (by kernel_rfl) ?_
                    refine op_ef0 (i := 15) HF rfl rfl (ef_store HS sz38 rfl rfl rfl) ?_; clear HS; rintro _ w HS
                    replace HH := HS.d3
                    refine ⟨fun _ => HH, ?_⟩
                    refine dx_done (by kernel_rfl) ?_
                    exact J _ _ ⟨_, _, _, HF.sub (by repeat (first | exact ag_nil | refine ag_cons rfl ?_)), HS.swap⟩
              · refine op_ef (i := 11) HF rfl rfl rfl (ef_alloc HS ze38) ?_; clear HF HS ac; rintro _ w ac ⟨g14, rfl, HS⟩ HF
                replace HH := HS.d1
                refine ⟨fun _ => HH, ?_⟩
                refine dx_three (i := 7) (j := 10) (j2 := 12) (by kernel_rfl) ?_ ?_ ?_
                · refine op_call (i := 7) HF rfl Tryd.func39 (by kernel_rfl) (by kernel_rfl) (evs_cons rfl evs_nil) (HR2 w HS.kp) rfl rfl ?_; clear HF ac
                  rintro _ w ⟨rfl, k1⟩
                  refine ⟨_, rfl, fun ac HF => ?_⟩
                  replace HH := HH.call k1
                  replace HS := HS.call k1
                  clear k1
                  refine ⟨fun _ => HH, ?_⟩
                  refine dx_three (i := 9) (j := 10) (j2 := 12) (by kernel_rfl) ?_ ?_ ?_
                  · refine op_call (i := 9) HF rfl Tryd.func39 (by kernel_rfl) (by kernel_rfl) (evs_cons rfl evs_nil) (HR3 w HS.kp) rfl rfl ?_; clear HF ac
                    rintro _ w ⟨rfl, k1⟩
                    refine ⟨_, rfl, fun ac HF => ?_⟩
                    replace HH := HH.call k1
                    replace HS := HS.call k1
                    clear k1
                    refine ⟨fun _ => HH, ?_⟩
                    refine dx_two (i := 10) (j := 12) (by kernel_rfl) ?_ ?_
                    · refine op_ef (i := 10) HF rfl rfl rfl (ef_alloc HS ze38) ?_; clear HF HS ac; rintro _ w ac ⟨g13, rfl, HS⟩ HF
                      replace HH := HS.d2
                      refine ⟨fun _ => HH, ?_⟩
                      refine dx_one (i := 12) (by kernel_rfl) ?_
                      refine op_ef (i := 12) HF rfl rfl rfl (ef_alloc HS ze38) ?_; clear HF HS ac; rintro _ w ac ⟨g15, rfl, HS⟩ HF
                      replace HH := HS.d3
                      refine ⟨fun _ => HH, ?_⟩
                      refine dx_one (i := 13) (by kernel_rfl) ?_
                      refine op_ef0 (i := 13) HF rfl rfl (ef_store HS sz38 rfl rfl rfl) ?_; clear HS; rintro _ w HS
                      replace HH := HS.d3
                      refine ⟨fun _ => HH, ?_⟩
                      refine dx_one (i := 14) (by kernel_rfl) ?_
                      refine op_ef0 (i := 14) HF rfl rfl (ef_store HS sz38 rfl rfl rfl) ?_; clear HS; rintro _ w HS
                      replace HH := HS.d3
                      refine ⟨fun _ => HH, ?_⟩
                      refine dx_one (i := 15) (by kernel_rfl) ?_
                      refine op_ef0 (i := 15) HF rfl rfl (ef_store HS sz38 rfl rfl rfl) ?_; clear HS; rintro _ w HS
                      replace HH := HS.d3
                      refine ⟨fun _ => HH, ?_⟩
                      refine dx_done (by kernel_rfl) ?_
                      exact J _ _ ⟨_, _, _, HF.sub (by repeat (first | exact ag_nil | refine ag_cons rfl ?_)), HS.swap.rot⟩
                    · refine op_ef (i := 12) HF rfl rfl rfl (ef_alloc HS ze38) ?_; clear HF HS ac; rintro _ w ac ⟨g15, rfl, HS⟩ HF
                      replace HH := HS.d2
                      refine ⟨fun _ => HH, ?_⟩
                      refine dx_one (i := 10) (by kernel_rfl) ?_
                      refine op_ef (i := 10) HF rfl rfl rfl (ef_alloc HS ze38) ?_; clear HF HS ac; rintro _ w ac ⟨g13, rfl, HS⟩ HF
                      replace HH := HS.d3
                      refine ⟨fun _ => HH, ?_⟩
                      refine dx_one (i := 13) (by kernel_rfl) ?_
                      refine op_ef0 (i := 13) HF rfl rfl (ef_store HS sz38 rfl rfl rfl) ?_; clear HS; rintro _ w HS
                      replace HH := HS.d3
                      refine ⟨fun _ => HH, ?_⟩
                      refine dx_one (i := 14) (by kernel_rfl) ?_
                      refine op_ef0 (i := 14) HF rfl rfl (ef_store HS sz38 rfl rfl rfl) ?_; clear HS; rintro _ w HS
                      replace HH := HS.d3
                      refine ⟨fun _ => HH, ?_⟩
                      refine dx_one (i := 15) (by kernel_rfl) ?_
                      refine op_ef0 (i := 15) HF rfl rfl (ef_store HS sz38 rfl rfl rfl) ?_; clear HS; rintro _ w HS
                      replace HH := HS.d3
                      refine ⟨fun _ => HH, ?_⟩
                      refine dx_done (by kernel_rfl) ?_
                      exact J _ _ ⟨_, _, _, HF.sub (by repeat (first | exact ag_nil | refine ag_cons rfl ?_)), HS.rot⟩
                  · refine op_ef (i := 10) HF rfl rfl rfl (ef_alloc HS ze38) ?_; clear HF HS ac; rintro _ w ac ⟨g13, rfl, HS⟩ HF
                    replace HH := HS.d2
                    refine ⟨fun _ => HH, ?_⟩
                    refine dx_two (i := 9) (j := 12) (by kernel_rfl) ?_ ?_
                    · refine op_call (i := 9) HF rfl Tryd.func39 (by kernel_rfl) (by kernel_rfl) (evs_cons rfl evs_nil) (HR3 w HS.kp) rfl rfl ?_; clear HF ac
                      rintro _ w ⟨rfl, k1⟩
                      refine ⟨_, rfl, fun ac HF => ?_⟩
                      replace HH := HH.call k1
                      replace HS := HS.call k1
                      clear k1
                      refine ⟨fun _ => HH, ?_⟩
                      refine dx_one (i := 12) (by kernel_rfl) ?_
                      refine op_ef (i := 12) HF rfl rfl rfl (ef_alloc HS ze38) ?_; clear HF HS ac; rintro _ w ac ⟨g15, rfl, HS⟩ HF
                      replace HH := HS.d3
                      refine ⟨fun _ => HH, ?_⟩
                      refine dx_one (i := 13) (by kernel_rfl) ?_
                      refine op_ef0 (i := 13) HF rfl rfl (ef_store HS sz38 rfl rfl rfl) ?_; clear HS; rintro _ w HS
                      replace HH := HS.d3
                      refine ⟨fun _ => HH, ?_⟩
                      refine dx_one (i := 14) (by kernel_rfl) ?_
                      refine op_ef0 (i := 14) HF rfl rfl (ef_store HS sz38 rfl rfl rfl) ?_; clear HS; rintro _ w HS
                      replace HH := HS.d3
                      refine ⟨fun _ => HH, ?_⟩
                      refine dx_one (i := 15) (by kernel_rfl) ?_
                      refine op_ef0 (i := 15) HF rfl rfl (ef_store HS sz38 rfl rfl rfl) ?_; clear HS; rintro _ w HS
                      replace HH := HS.d3
                      refine ⟨fun _ => HH, ?_⟩
                      refine dx_done (by kernel_rfl) ?_
                      exact J _ _ ⟨_, _, _, HF.sub (by repeat (first | exact ag_nil | refine ag_cons rfl ?_)), HS.swap.rot⟩
                    · refine op_ef (i := 12) HF rfl rfl rfl (ef_alloc HS ze38) ?_; clear HF HS ac; rintro _ w ac ⟨g15, rfl, HS⟩ HF
                      replace HH := HS.d3
                      refine ⟨fun _ => HH, ?_⟩
                      refine dx_one (i := 9) (by kernel_rfl) ?_
                      refine op_call (i := 9) HF rfl Tryd.func39 (by kernel_rfl) (by kernel_rfl) (evs_cons rfl evs_nil) (HR3 w HS.kp) rfl rfl ?_; clear HF ac
                      rintro _ w ⟨rfl, k1⟩
                      refine ⟨_, rfl, fun ac HF => ?_⟩
                      replace HH := HH.call k1
                      replace HS := HS.call k1
                      clear k1
                      refine ⟨fun _ => HH, ?_⟩
                      refine dx_one (i := 13) (by kernel_rfl) ?_
                      refine op_ef0 (i := 13) HF rfl rfl (ef_store HS sz38 rfl rfl rfl) ?_; clear HS; rintro _ w HS
                      replace HH := HS.d3
                      refine ⟨fun _ => HH, ?_⟩
                      refine dx_one (i := 14) (by kernel_rfl) ?_
                      refine op_ef0 (i := 14) HF rfl rfl (ef_store HS sz38 rfl rfl rfl) ?_; clear HS; rintro _ w HS
                      replace HH := HS.d3
                      refine ⟨fun _ => HH, ?_⟩
                      refine dx_one (i := 15) (by kernel_rfl) ?_
                      refine op_ef0 (i := 15) HF rfl rfl (ef_store HS sz38 rfl rfl rfl) ?_; clear HS; rintro _ w HS
                      replace HH := HS.d3
                      refine ⟨fun _ => HH, ?_⟩
                      refine dx_done (by kernel_rfl) ?_
                      exact J _ _ ⟨_, _, _, HF.sub (by repeat (first | exact ag_nil | refine ag_cons rfl ?_)), HS.swap.rot⟩
                  · refine op_ef (i := 12) HF rfl rfl rfl (ef_alloc HS ze38) ?_; clear HF HS ac; rintro _ w ac ⟨g15, rfl, HS⟩ HF
                    replace HH := HS.d2
                    refine ⟨fun _ => HH, ?_⟩
                    refine dx_two (i := 9) (j := 10) (by kernel_rfl) ?_ ?_
                    · refine op_call (i := 9) HF rfl Tryd.func39 (by kernel_rfl) (by kernel_rfl) (evs_cons rfl evs_nil) (HR3 w HS.kp) rfl rfl ?_; clear HF ac
                      rintro _ w ⟨rfl, k1⟩
                      refine ⟨_, rfl, fun ac HF => ?_⟩
                      replace HH := HH.call k1
                      replace HS := HS.call k1
                      clear k1
                      refine ⟨fun _ => HH, ?_⟩
                      refine dx_one (i := 10) (by kernel_rfl) ?_
                      refine op_ef (i := 10) HF rfl rfl rfl (ef_alloc HS ze38) ?_; clear HF HS ac; rintro _ w ac ⟨g13, rfl, HS⟩ HF
                      replace HH := HS.d3
                      refine ⟨fun _ => HH, ?_⟩
                      refine dx_one (i := 13) (by kernel_rfl) ?_
                      refine op_ef0 (i := 13) HF rfl rfl (ef_store HS sz38 rfl rfl rfl) ?_; clear HS; rintro _ w HS
                      replace HH := HS.d3
                      refine ⟨fun _ => HH, ?_⟩
                      refine dx_one (i := 14) (by kernel_rfl) ?_
                      refine op_ef0 (i := 14) HF rfl rfl (ef_store HS sz38 rfl rfl rfl) ?_; clear HS; rintro _ w HS
                      replace HH := HS.d3
                      refine ⟨fun _ => HH, ?_⟩
                      refine dx_one (i := 15) (by kernel_rfl) ?_
                      refine op_ef0 (i := 15) HF rfl rfl (ef_store HS sz38 rfl rfl rfl) ?_; clear HS; rintro _ w HS
                      replace HH := HS.d3
                      refine ⟨fun _ => HH, ?_⟩
                      refine dx_done (by kernel_rfl) ?_
                      exact J _ _ ⟨_, _, _, HF.sub (by repeat (first | exact ag_nil | refine ag_cons rfl ?_)), HS.rot⟩
                    · refine op_ef (i := 10) HF rfl rfl rfl (ef_alloc HS ze38) ?_; clear HF HS ac; rintro _ w ac ⟨g13, rfl, HS⟩ HF
                      replace HH := HS.d3
                      refine ⟨fun _ => HH, ?_⟩
                      refine dx_one (i := 9) (by kernel_rfl) ?_
                      refine op_call (i := 9) HF rfl Tryd.func39 (by kernel_rfl) (by kernel_rfl) (evs_cons rfl evs_nil) (HR3 w HS.kp) rfl rfl ?_; clear HF ac
                      rintro _ w ⟨rfl, k1⟩
                      refine ⟨_, rfl, fun ac HF => ?_⟩
                      replace HH := HH.call k1
                      replace HS := HS.call k1
                      clear k1
                      refine ⟨fun _ => HH, ?_⟩
                      refine dx_one (i := 13) (by kernel_rfl) ?_
                      refine op_ef0 (i := 13) HF rfl rfl (ef_store HS sz38 rfl rfl rfl) ?_; clear HS; rintro _ w HS
                      replace HH := HS.d3
                      refine ⟨fun _ => HH, ?_⟩
                      refine dx_one (i := 14) (by kernel_rfl) ?_
                      refine op_ef0 (i := 14) HF rfl rfl (ef_store HS sz38 rfl rfl rfl) ?_; clear HS; rintro _ w HS
                      replace HH := HS.d3
                      refine ⟨fun _ => HH, ?_⟩
                      refine dx_one (i := 15) (by kernel_rfl) ?_
                      refine op_ef0 (i := 15) HF rfl rfl (ef_store HS sz38 rfl rfl rfl) ?_; clear HS; rintro _ w HS
                      replace HH := HS.d3
                      refine ⟨fun _ => HH, ?_⟩
                      refine dx_done (by kernel_rfl) ?_
                      exact J _ _ ⟨_, _, _, HF.sub (by repeat (first | exact ag_nil | refine ag_cons rfl ?_)), HS.rot⟩
                · refine op_ef (i := 10) HF rfl rfl rfl (ef_alloc HS ze38) ?_; clear HF HS ac; rintro _ w ac ⟨g13, rfl, HS⟩ HF
                  replace HH := HS.d2
                  refine ⟨fun _ => HH, ?_⟩
                  refine dx_two (i := 7) (j := 12) (by kernel_rfl) ?_ ?_
                  · refine op_call (i := 7) HF rfl Tryd.func39 (by kernel_rfl) (by kernel_rfl) (evs_cons rfl evs_nil) (HR2 w HS.kp) rfl rfl ?_; clear HF ac
                    rintro _ w ⟨rfl, k1⟩
                    refine ⟨_, rfl, fun ac HF => ?_⟩
                    replace HH := HH.call k1
                    replace HS := HS.call k1
                    clear k1
                    refine ⟨fun _ => HH, ?_⟩
                    refine dx_two (i := 9) (j := 12) (by kernel_rfl) ?_ ?_
                    · refine op_call (i := 9) HF rfl Tryd.func39 (by kernel_rfl) (by kernel_rfl) (evs_cons rfl evs_nil) (HR3 w HS.kp) rfl rfl ?_; clear HF ac
                      rintro _ w ⟨rfl, k1⟩
                      refine ⟨_, rfl, fun ac HF => ?_⟩
                      replace HH := HH.call k1
                      replace HS := HS.call k1
                      clear k1
                      refine ⟨fun _ => HH, ?_⟩
                      refine dx_one (i := 12) (by kernel_rfl) ?_
                      refine op_ef (i := 12) HF rfl rfl rfl (ef_alloc HS ze38) ?_; clear HF HS ac; rintro _ w ac ⟨g15, rfl, HS⟩ HF
                      replace HH := HS.d3
                      refine ⟨fun _ => HH, ?_⟩
                      refine dx_one (i := 13) (by kernel_rfl) ?_
                      refine op_ef0 (i := 13) HF rfl rfl (ef_store HS sz38 rfl rfl rfl) ?_; clear HS; rintro _ w HS
                      replace HH := HS.d3
                      refine ⟨fun _ => HH, ?_⟩
                      refine dx_one (i := 14) (by kernel_rfl) ?_
                      refine op_ef0 (i := 14) HF rfl rfl (ef_store HS sz38 rfl rfl rfl) ?_; clear HS; rintro _ w HS
                      replace HH := HS.d3
                      refine ⟨fun _ => HH, ?_⟩
                      refine dx_one (i := 15) (by kernel_rfl) ?_
                      refine op_ef0 (i := 15) HF rfl rfl (ef_store HS sz38 rfl rfl rfl) ?_; clear HS; rintro _ w HS
                      replace HH := HS.d3
                      refine ⟨fun _ => HH, ?_⟩
                      refine dx_done (by kernel_rfl) ?_
                      exact J _ _ ⟨_, _, _, HF.sub (by repeat (first | exact ag_nil | refine ag_cons rfl ?_)), HS.swap.rot⟩
                    · refine op_ef (i := 12) HF rfl rfl rfl (ef_alloc HS ze38) ?_; clear HF HS ac; rintro _ w ac ⟨g15, rfl, HS⟩ HF
                      replace HH := HS.d3
                      refine ⟨fun _ => HH, ?_⟩
                      refine dx_one (i := 9) (by kernel_rfl) ?_
                      refine op_call (i := 9) HF rfl Tryd.func39 (by kernel_rfl) (by kernel_rfl) (evs_cons rfl evs_nil) (HR3 w HS.kp) rfl rfl ?_; clear HF ac
                      rintro _ w ⟨rfl, k1⟩
                      refine ⟨_, rfl, fun ac HF => ?_⟩
                      replace HH := HH.call k1
                      replace HS := HS.call k1
                      clear k1
                      refine ⟨fun _ => HH, ?_⟩
                      refine dx_one (i := 13) (by kernel_rfl) ?_
                      refine op_ef0 (i := 13) HF rfl rfl (ef_store HS sz38 rfl rfl rfl) ?_; clear HS; rintro _ w HS
                      replace HH := HS.d3
                      refine ⟨fun _ => HH, ?_⟩
                      refine dx_one (i := 14) (by kernel_rfl) ?_
                      refine op_ef0 (i := 14) HF rfl rfl (ef_store HS sz38 rfl rfl rfl) ?_; clear HS; rintro _ w HS
                      replace HH := HS.d3
                      refine ⟨fun _ => HH, ?_⟩
                      refine dx_one (i := 15) (by kernel_rfl) ?_
                      refine op_ef0 (i := 15) HF rfl rfl (ef_store HS sz38 rfl rfl rfl) ?_; clear HS; rintro _ w HS
                      replace HH := HS.d3
                      refine ⟨fun _ => HH, ?_⟩
                      refine dx_done (by kernel_rfl) ?_
                      exact J _ _ ⟨_, _, _, HF.sub (by repeat (first | exact ag_nil | refine ag_cons rfl ?_)), HS.swap.rot⟩
                  · refine op_ef (i := 12) HF rfl rfl rfl (ef_alloc HS ze38) ?_; clear HF HS ac; rintro _ w ac ⟨g15, rfl, HS⟩ HF
                    replace HH := HS.d3
                    refine ⟨fun _ => HH, ?_⟩
                    refine dx_one (i := 7) (by kernel_rfl) ?_
                    refine op_call (i := 7) HF rfl Tryd.func39 (by kernel_rfl) (by kernel_rfl) (evs_cons rfl evs_nil) (HR2 w HS.kp) rfl rfl ?_; clear HF ac
                    rintro _ w ⟨rfl, k1⟩
                    refine ⟨_, rfl, fun ac HF => ?_⟩
                    replace HH := HH.call k1
                    replace HS := HS.call k1
                    clear k1
                    refine ⟨fun _ => HH, ?_⟩
                    refine dx_one (i := 9) (by kernel_rfl) ?_
                    refine op_call (i := 9) HF rfl Tryd.func39 (by kernel_rfl) (by kernel_rfl) (evs_cons rfl evs_nil) (HR3 w HS.kp) rfl rfl ?_; clear HF ac
                    rintro _ w ⟨rfl, k1⟩
                    refine ⟨_, rfl, fun ac HF => ?_⟩
                    replace HH := HH.call k1
                    replace HS := HS.call k1
                    clear k1
                    refine ⟨fun _ => HH, ?_⟩
                    refine dx_one (i := 13) (by kernel_rfl) ?_
                    refine op_ef0 (i := 13) HF rfl rfl (ef_store HS sz38 rfl rfl rfl) ?_; clear HS; rintro _ w HS
                    replace HH := HS.d3
                    refine ⟨fun _ => HH, ?_⟩
                    refine dx_one (i := 14) (by kernel_rfl) ?_
                    refine op_ef0 (i := 14) HF rfl rfl (ef_store HS sz38 rfl rfl rfl) ?_; clear HS; rintro _ w HS
                    replace HH := HS.d3
                    refine ⟨fun _ => HH, ?_⟩
                    refine dx_one (i := 15) (by kernel_rfl) ?_
                    refine op_ef0 (i := 15) HF rfl rfl (ef_store HS sz38 rfl rfl rfl) ?_; clear HS; rintro _ w HS
                    replace HH := HS.d3
                    refine ⟨fun _ => HH, ?_⟩
                    refine dx_done (by kernel_rfl) ?_
                    exact J _ _ ⟨_, _, _, HF.sub (by repeat (first | exact ag_nil | refine ag_cons rfl ?_)), HS.swap.rot⟩
                · refine op_ef (i := 12) HF rfl rfl rfl (ef_alloc HS ze38) ?_; clear HF HS ac; rintro _ w ac ⟨g15, rfl, HS⟩ HF
                  replace HH := HS.d2
                  refine ⟨fun _ => HH, ?_⟩
                  refine dx_two (i := 7) (j := 10) (by kernel_rfl) ?_ ?_
                  · refine op_call (i := 7) HF rfl Tryd.func39 (by kernel_rfl) (by kernel_rfl) (evs_cons rfl evs_nil) (HR2 w HS.kp) rfl rfl ?_; clear HF ac
                    rintro _ w ⟨rfl, k1⟩
                    refine ⟨_, rfl, fun ac HF => ?_⟩
                    replace HH := HH.call k1
                    replace HS := HS.call k1
                    clear k1
                    refine ⟨fun _ => HH, ?_⟩
                    refine dx_two (i := 9) (j := 10) (by kernel_rfl) ?_ ?_
                    · refine op_call (i := 9) HF rfl Tryd.func39 (by kernel_rfl) (by kernel_rfl) (evs_cons rfl evs_nil) (HR3 w HS.kp) rfl rfl ?_; clear HF ac
                      rintro _ w ⟨rfl, k1⟩
                      refine ⟨_, rfl, fun ac HF => ?_⟩
                      replace HH := HH.call k1
                      replace HS := HS.call k1
                      clear k1
                      refine ⟨fun _ => HH, ?_⟩
                      refine dx_one (i := 10) (by kernel_rfl) ?_
                      refine op_ef (i := 10) HF rfl rfl rfl (ef_alloc HS ze38) ?_; clear HF HS ac; rintro _ w ac ⟨g13, rfl, HS⟩ HF
                      replace HH := HS.d3
                      refine ⟨fun _ => HH, ?_⟩
                      refine dx_one (i := 13) (by kernel_rfl) ?_
                      refine op_ef0 (i := 13) HF rfl rfl (ef_store HS sz38 rfl rfl rfl) ?_; clear HS; rintro _ w HS
                      replace HH := HS.d3
                      refine ⟨fun _ => HH, ?_⟩
                      refine dx_one (i := 14) (by kernel_rfl) ?_
                      refine op_ef0 (i := 14) HF rfl rfl (ef_store HS sz38 rfl rfl rfl) ?_; clear HS; rintro _ w HS
                      replace HH := HS.d3
                      refine ⟨fun _ => HH, ?_⟩
                      refine dx_one (i := 15) (by kernel_rfl) ?_
                      refine op_ef0 (i := 15) HF rfl rfl (ef_store HS sz38 rfl rfl rfl) ?_; clear HS; rintro _ w HS
                      replace HH := HS.d3
                      refine ⟨fun _ => HH, ?_⟩
                      refine dx_done (by kernel_rfl) ?_
                      exact J _ _ ⟨_, _, _, HF.sub (by repeat (first | exact ag_nil | refine ag_cons rfl ?_)), HS.rot⟩
                    · refine op_ef (i := 10) HF rfl rfl rfl (ef_alloc HS ze38) ?_; clear HF HS ac; rintro _ w ac ⟨g13, rfl, HS⟩ HF
                      replace HH := HS.d3
                      refine ⟨fun _ => HH, ?_⟩
                      refine dx_one (i := 9) (by kernel_rfl) ?_
                      refine op_call (i := 9) HF rfl Tryd.func39 (by kernel_rfl) (by kernel_rfl) (evs_cons rfl evs_nil) (HR3 w HS.kp) rfl rfl ?_; clear HF ac
                      rintro _ w ⟨rfl, k1⟩
                      refine ⟨_, rfl, fun ac HF => ?_⟩
                      replace HH := HH.call k1
                      replace HS := HS.call k1
                      clear k1
                      refine ⟨fun _ => HH, ?_⟩
                      refine dx_one (i := 13) (by kernel_rfl) ?_
                      refine op_ef0 (i := 13) HF rfl rfl (ef_store HS sz38 rfl rfl rfl) ?_; clear HS; rintro _ w HS
                      replace HH := HS.d3
                      refine ⟨fun _ => HH, ?_⟩
                      refine dx_one (i := 14) (by kernel_rfl) ?_
                      refine op_ef0 (i := 14) HF rfl rfl (ef_store HS sz38 rfl rfl rfl) ?_; clear HS; rintro _ w HS
                      replace HH := HS.d3
                      refine ⟨fun _ => HH, ?_⟩
                      refine dx_one (i := 15) (by kernel_rfl) ?_
                      refine op_ef0 (i := 15) HF rfl rfl (ef_store HS sz38 rfl rfl rfl) ?_; clear HS; rintro _ w HS
                      replace HH := HS.d3
                      refine ⟨fun _ => HH, ?_⟩
                      refine dx_done (by kernel_rfl) ?_
                      exact J _ _ ⟨_, _, _, HF.sub (by repeat (first | exact ag_nil | refine ag_cons rfl ?_)), HS.rot⟩
                  · refine op_ef (i := 10) HF rfl rfl rfl (ef_alloc HS ze38) ?_; clear HF HS ac; rintro _ w ac ⟨g13, rfl, HS⟩ HF
                    replace HH := HS.d3
                    refine ⟨fun _ => HH, ?_⟩
                    refine dx_one (i := 7) (by kernel_rfl) ?_
                    refine op_call (i := 7) HF rfl Tryd.func39 (by kernel_rfl) (by kernel_rfl) (evs_cons rfl evs_nil) (HR2 w HS.kp) rfl rfl ?_; clear HF ac
                    rintro _ w ⟨rfl, k1⟩
                    refine ⟨_, rfl, fun ac HF => ?_⟩
                    replace HH := HH.call k1
                    replace HS := HS.call k1
                    clear k1
                    refine ⟨fun _ => HH, ?_⟩
                    refine dx_one (i := 9) (by kernel_rfl) ?_
                    refine op_call (i := 9) HF rfl Tryd.func39 (by kernel_rfl) (by kernel_rfl) (evs_cons rfl evs_nil) (HR3 w HS.kp) rfl rfl ?_; clear HF ac
                    rintro _ w ⟨rfl, k1⟩
                    refine ⟨_, rfl, fun ac HF => ?_⟩
                    replace HH := HH.call k1
                    replace HS := HS.call k1
                    clear k1
                    refine ⟨fun _ => HH, ?_⟩
                    refine dx_one (i := 13) (by kernel_rfl) ?_
                    refine op_ef0 (i := 13) HF rfl rfl (ef_store HS sz38 rfl rfl rfl) ?_; clear HS; rintro _ w HS
                    replace HH := HS.d3
                    refine ⟨fun _ => HH, ?_⟩
                    refine dx_one (i := 14) (by kernel_rfl) ?_
                    refine op_ef0 (i := 14) HF rfl rfl (ef_store HS sz38 rfl rfl rfl) ?_; clear HS; rintro _ w HS
                    replace HH := HS.d3
                    refine ⟨fun _ => HH, ?_⟩
                    refine dx_one (i := 15) (by kernel_rfl) ?_
                    refine op_ef0 (i := 15) HF rfl rfl (ef_store HS sz38 rfl rfl rfl) ?_; clear HS; rintro _ w HS
                    replace HH := HS.d3
                    refine ⟨fun _ => HH, ?_⟩
                    refine dx_done (by kernel_rfl) ?_
                    exact J _ _ ⟨_, _, _, HF.sub (by repeat (first | exact ag_nil | refine ag_cons rfl ?_)), HS.rot⟩
              · refine op_ef (i := 12) HF rfl rfl rfl (ef_alloc HS ze38) ?_; clear HF HS ac; rintro _ w ac ⟨g15, rfl, HS⟩ HF
                replace HH := HS.d1
                refine ⟨fun _ => HH, ?_⟩
                refine dx_three (i := 7) (j := 10) (j2 := 11) (by kernel_rfl) ?_ ?_ ?_
                · refine op_call (i := 7) HF rfl Tryd.func39 (by kernel_rfl) (by kernel_rfl) (evs_cons rfl evs_nil) (HR2 w HS.kp) rfl rfl ?_; clear HF ac
                  rintro _ w ⟨rfl, k1⟩
                  refine ⟨_, rfl, fun ac HF => ?_⟩
                  replace HH := HH.call k1
                  replace HS := HS.call k1
                  clear k1
                  refine ⟨fun _ => HH, ?_⟩
                  refine dx_three (i := 9) (j := 10) (j2 := 11) (by kernel_rfl) ?_ ?_ ?_
                  · refine op_call (i := 9) HF rfl Tryd.func39 (by kernel_rfl) (by kernel_rfl) (evs_cons rfl evs_nil) (HR3 w HS.kp) rfl rfl ?_; clear HF ac
                    rintro _ w ⟨rfl, k1⟩
                    refine ⟨_, rfl, fun ac HF => ?_⟩
                    replace HH := HH.call k1
                    replace HS := HS.call k1
                    clear k1
                    refine ⟨fun _ => HH, ?_⟩
                    refine dx_two (i := 10) (j := 11) (by kernel_rfl) ?_ ?_
                    · refine op_ef (i := 10) HF rfl rfl rfl (ef_alloc HS ze38) ?_; clear HF HS ac; rintro _ w ac ⟨g13, rfl, HS⟩ HF
                      replace HH := HS.d2
                      refine ⟨fun _ => HH, ?_⟩
                      refine dx_one (i := 11) (by kernel_rfl) ?_
                      refine op_ef (i := 11) HF rfl rfl rfl (ef_alloc HS ze38) ?_; clear HF HS ac; rintro _ w ac ⟨g14, rfl, HS⟩ HF
                      replace HH := HS.d3
                      refine ⟨fun _ => HH, ?_⟩
                      refine dx_one (i := 13) (by kernel_rfl) ?_
                      refine op_ef0 (i := 13) HF rfl rfl (ef_store HS sz38 rfl rfl rfl) ?_; clear HS; rintro _ w HS
                      replace HH := HS.d3
                      refine ⟨fun _ => HH, ?_⟩
                      refine dx_one (i := 14) (by kernel_rfl) ?_
                      refine op_ef0 (i := 14) HF rfl rfl (ef_store HS sz38 rfl rfl rfl) ?_; clear HS; rintro _ w HS
                      replace HH := HS.d3
                      refine ⟨fun _ => HH, ?_⟩
                      refine dx_one (i := 15) (by kernel_rfl) ?_
                      refine op_ef0 (i := 15) HF rfl rfl (ef_store HS sz38 rfl rfl rfl) ?_; clear HS; rintro _ w HS
                      replace HH := HS.d3
                      refine ⟨fun _ => HH, ?_⟩
                      refine dx_done (by kernel_rfl) ?_
                      exact J _ _ ⟨_, _, _, HF.sub (by repeat (first | exact ag_nil | refine ag_cons rfl ?_)), HS.rot.rot⟩
                    · refine op_ef (i := 11) HF rfl rfl rfl (ef_alloc HS ze38) ?_; clear HF HS ac; rintro _ w ac ⟨g14, rfl, HS⟩ HF
                      replace HH := HS.d2
                      refine ⟨fun _ => HH, ?_⟩
                      refine dx_one (i := 10) (by kernel_rfl) ?_
                      refine op_ef (i := 10) HF rfl rfl rfl (ef_alloc HS ze38) ?_; clear HF HS ac; rintro _ w ac ⟨g13, rfl, HS⟩ HF
                      replace HH := HS.d3
                      refine ⟨fun _ => HH, ?_⟩
                      refine dx_one (i := 13) (by kernel_rfl) ?_
                      refine op_ef0 (i := 13) HF rfl rfl (ef_store HS sz38 rfl rfl rfl) ?_; clear HS; rintro _ w HS
                      replace HH := HS.d3
                      refine ⟨fun _ => HH, ?_⟩
                      refine dx_one (i := 14) (by kernel_rfl) ?_
                      refine op_ef0 (i := 14) HF rfl rfl (ef_store HS sz38 rfl rfl rfl) ?_; clear HS; rintro _ w HS
                      replace HH := HS.d3
                      refine ⟨fun _ => HH, ?_⟩
                      refine dx_one (i := 15) (by kernel_rfl) ?_
                      refine op_ef0 (i := 15) HF rfl rfl (ef_store HS sz38 rfl rfl rfl) ?_; clear HS; rintro _ w HS
                      replace HH := HS.d3
                      refine ⟨fun _ => HH, ?_⟩
                      refine dx_done (by kernel_rfl) ?_
                      exact J _ _ ⟨_, _, _, HF.sub (by repeat (first | exact ag_nil | refine ag_cons rfl ?_)), HS.rot.swap⟩
                  · refine op_ef (i := 10) HF rfl rfl rfl (ef_alloc HS ze38) ?_; clear HF HS ac; rintro _ w ac ⟨g13, rfl, HS⟩ HF
                    replace HH := HS.d2
                    refine ⟨fun _ => HH, ?_⟩
                    refine dx_two (i := 9) (j := 11) (by kernel_rfl) ?_ ?_
                    · refine op_call (i := 9) HF rfl Tryd.func39 (by kernel_rfl) (by kernel_rfl) (evs_cons rfl evs_nil) (HR3 w HS.kp) rfl rfl ?_; clear HF ac
                      rintro _ w ⟨rfl, k1⟩
                      refine ⟨_, rfl, fun ac HF => ?_⟩
                      replace HH := HH.call k1
                      replace HS := HS.call k1
                      clear k1
                      refine ⟨fun _ => HH, ?_⟩
                      refine dx_one (i := 11) (by kernel_rfl) ?_
                      refine op_ef (i := 11) HF rfl rfl rfl (ef_alloc HS ze38) ?_; clear HF HS ac; rintro _ w ac ⟨g14, rfl, HS⟩ HF
                      replace HH := HS.d3
                      refine ⟨fun _ => HH, ?_⟩
                      refine dx_one (i := 13) (by kernel_rfl) ?_
                      refine op_ef0 (i := 13) HF rfl rfl (ef_store HS sz38 rfl rfl rfl) ?_; clear HS; rintro _ w HS
                      replace HH := HS.d3
                      refine ⟨fun _ => HH, ?_⟩
                      refine dx_one (i := 14) (by kernel_rfl) ?_
                      refine op_ef0 (i := 14) HF rfl rfl (ef_store HS sz38 rfl rfl rfl) ?_; clear HS; rintro _ w HS
                      replace HH := HS.d3
                      refine ⟨fun _ => HH, ?_⟩
                      refine dx_one (i := 15) (by kernel_rfl) ?_
                      refine op_ef0 (i := 15) HF rfl rfl (ef_store HS sz38 rfl rfl rfl) ?_; clear HS; rintro _ w HS
                      replace HH := HS.d3
                      refine ⟨fun _ => HH, ?_⟩
                      refine dx_done (by kernel_rfl) ?_
                      exact J _ _ ⟨_, _, _, HF.sub (by repeat (first | exact ag_nil | refine ag_cons rfl ?_)), HS.rot.rot⟩
                    · refine op_ef (i := 11) HF rfl rfl rfl (ef_alloc HS ze38) ?_; clear HF HS ac; rintro _ w ac ⟨g14, rfl, HS⟩ HF
                      replace HH := HS.d3
                      refine ⟨fun _ => HH, ?_⟩
                      refine dx_one (i := 9) (by kernel_rfl) ?_
                      refine op_call (i := 9) HF rfl Tryd.func39 (by kernel_rfl) (by kernel_rfl) (evs_cons rfl evs_nil) (HR3 w HS.kp) rfl rfl ?_; clear HF ac
                      rintro _ w ⟨rfl, k1⟩
                      refine ⟨_, rfl, fun ac HF => ?_⟩
                      replace HH := HH.call k1
                      replace HS := HS.call k1
                      clear k1
                      refine ⟨fun _ => HH, ?_⟩
                      refine dx_one (i := 13) (by kernel_rfl) ?_
                      refine op_ef0 (i := 13) HF rfl rfl (ef_store HS sz38 rfl rfl rfl) ?_; clear HS; rintro _ w HS
                      replace HH := HS.d3
                      refine ⟨fun _ => HH, ?_⟩
                      refine dx_one (i := 14) (by kernel_rfl) ?_
                      refine op_ef0 (i := 14) HF rfl rfl (ef_store HS sz38 rfl rfl rfl) ?_; clear HS; rintro _ w HS
                      replace HH := HS.d3
                      refine ⟨fun _ => HH, ?_⟩
                      refine dx_one (i := 15) (by kernel_rfl) ?_
                      refine op_ef0 (i := 15) HF rfl rfl (ef_store HS sz38 rfl rfl rfl) ?_; clear HS; rintro _ w HS
                      replace HH := HS.d3
                      refine ⟨fun _ => HH, ?_⟩
                      refine dx_done (by kernel_rfl) ?_
                      exact J _ _ ⟨_, _, _, HF.sub (by repeat (first | exact ag_nil | refine ag_cons rfl ?_)), HS.rot.rot⟩
                  · refine op_ef (i := 11) HF rfl rfl rfl (ef_alloc HS ze38) ?_; clear HF HS ac; rintro _ w ac ⟨g14, rfl, HS⟩ HF
                    replace HH := HS.d2
                    refine ⟨fun _ => HH, ?_⟩
                    refine dx_two (i := 9) (j := 10) (by kernel_rfl) ?_ ?_
                    · refine op_call (i := 9) HF rfl Tryd.func39 (by kernel_rfl) (by kernel_rfl) (evs_cons rfl evs_nil) (HR3 w HS.kp) rfl rfl ?_; clear HF ac
                      rintro _ w ⟨rfl, k1⟩
                      refine ⟨_, rfl, fun ac HF => ?_⟩
                      replace HH := HH.call k1
                      replace HS := HS.call k1
                      clear k1
                      refine ⟨fun _ => HH, ?_⟩
                      refine dx_one (i := 10) (by kernel_rfl) ?_
                      refine op_ef (i := 10) HF rfl rfl rfl (ef_alloc HS ze38) ?_; clear HF HS ac; rintro _ w ac ⟨g13, rfl, HS⟩ HF
                      replace HH := HS.d3
                      refine ⟨fun _ => HH, ?_⟩
                      refine dx_one (i := 13) (by kernel_rfl) ?_
                      refine op_ef0 (i := 13) HF rfl rfl (ef_store HS sz38 rfl rfl rfl) ?_; clear HS; rintro _ w HS
                      replace HH := HS.d3
                      refine ⟨fun _ => HH, ?_⟩
                      refine dx_one (i := 14) (by kernel_rfl) ?_
                      refine op_ef0 (i := 14) HF rfl rfl (ef_store HS sz38 rfl rfl rfl) ?_; clear HS; rintro _ w HS
                      replace HH := HS.d3
                      refine ⟨fun _ => HH, ?_⟩
                      refine dx_one (i := 15) (by kernel_rfl) ?_
                      refine op_ef0 (i := 15) HF rfl rfl (ef_store HS sz38 rfl rfl rfl) ?_; clear HS; rintro _ w HS
                      replace HH := HS.d3
                      refine ⟨fun _ => HH, ?_⟩
                      refine dx_done (by kernel_rfl) ?_
                      exact J _ _ ⟨_, _, _, HF.sub (by repeat (first | exact ag_nil | refine ag_cons rfl ?_)), HS.rot.swap⟩
                    · refine op_ef (i := 10) HF rfl rfl rfl (ef_alloc HS ze38) ?_; clear HF HS ac; rintro _ w ac ⟨g13, rfl, HS⟩ HF
                      replace HH := HS.d3
                      refine ⟨fun _ => HH, ?_⟩
                      refine dx_one (i := 9) (by kernel_rfl) ?_
                      refine op_call (i := 9) HF rfl Tryd.func39 (by kernel_rfl) (by kernel_rfl) (evs_cons rfl evs_nil) (HR3 w HS.kp) rfl rfl ?_; clear HF ac
                      rintro _ w ⟨rfl, k1⟩
                      refine ⟨_, rfl, fun ac HF => ?_⟩
                      replace HH := HH.call k1
                      replace HS := HS.call k1
                      clear k1
                      refine ⟨fun _ => HH, ?_⟩
                      refine dx_one (i := 13) (by kernel_rfl) ?_
                      refine op_ef0 (i := 13) HF rfl rfl (ef_store HS sz38 rfl rfl rfl) ?_; clear HS; rintro _ w HS
                      replace HH := HS.d3
                      refine ⟨fun _ => HH, ?_⟩
                      refine dx_one (i := 14) (by kernel_rfl) ?_
                      refine op_ef0 (i := 14) HF rfl rfl (ef_store HS sz38 rfl rfl rfl) ?_; clear HS; rintro _ w HS
                      replace HH := HS.d3
                      refine ⟨fun _ => HH, ?_⟩
                      refine dx_one (i := 15) (by kernel_rfl) ?_
                      refine op_ef0 (i := 15) HF rfl rfl (ef_store HS sz38 rfl rfl rfl) ?_; clear HS; rintro _ w HS
                      replace HH := HS.d3
                      refine ⟨fun _ => HH, ?_⟩
                      refine dx_done (by kernel_rfl) ?_
                      exact J _ _ ⟨_, _, _, HF.sub (by repeat (first | exact ag_nil | refine ag_cons rfl ?_)), HS.rot.swap⟩
                · refine op_ef (i := 10) HF rfl rfl rfl (ef_alloc HS ze38) ?_; clear HF HS ac; rintro _ w ac ⟨g13, rfl, HS⟩ HF
                  replace HH := HS.d2
                  refine ⟨fun _ => HH, ?_⟩
                  refine dx_two (i := 7) (j := 11) (by kernel_rfl) ?_ ?_
                  · refine op_call (i := 7) HF rfl Tryd.func39 (by kernel_rfl) (by kernel_rfl) (evs_cons rfl evs_nil) (HR2 w HS.kp) rfl rfl ?_; clear HF ac
                    rintro _ w ⟨rfl, k1⟩
                    refine ⟨_, rfl, fun ac HF => ?_⟩
                    replace HH := HH.call k1
                    replace HS := HS.call k1
                    clear k1
                    refine ⟨fun _ => HH, ?_⟩
                    refine dx_two (i := 9) (j := 11) (by kernel_rfl) ?_ ?_
                    · refine op_call (i := 9) HF rfl Tryd.func39 (by kernel_rfl) (by kernel_rfl) (evs_cons rfl evs_nil) (HR3 w HS.kp) rfl rfl ?_; clear HF ac
                      rintro _ w ⟨rfl, k1⟩
                      refine ⟨_, rfl, fun ac HF => ?_⟩
                      replace HH := HH.call k1
                      replace HS := HS.call k1
                      clear k1
                      refine ⟨fun _ => HH, ?_⟩
                      refine dx_one (i := 11) (by kernel_rfl) ?_
                      refine op_ef (i := 11) HF rfl rfl rfl (ef_alloc HS ze38) ?_; clear HF HS ac; rintro _ w ac ⟨g14, rfl, HS⟩ HF
                      replace HH := HS.d3
                      refine ⟨fun _ => HH, ?_⟩
                      refine dx_one (i := 13) (by kernel_rfl) ?_
                      refine op_ef0 (i := 13) HF rfl rfl (ef_store HS sz38 rfl rfl rfl) ?_; clear HS; rintro _ w HS
                      replace HH := HS.d3
                      refine ⟨fun _ => HH, ?_⟩
                      refine dx_one (i := 14) (by kernel_rfl) ?_
                      refine op_ef0 (i := 14) HF rfl rfl (ef_store HS sz38 rfl rfl rfl) ?_; clear HS; rintro _ w HS
                      replace HH := HS.d3
                      refine ⟨fun _ => HH, ?_⟩
                      refine dx_one (i := 15) (by kernel_rfl) ?_
                      refine op_ef0 (i := 15) HF rfl rfl (ef_store HS sz38 rfl rfl rfl) ?_; clear HS; rintro _ w HS
                      replace HH := HS.d3
                      refine ⟨fun _ => HH, ?_⟩
                      refine dx_done (by kernel_rfl) ?_
                      exact J _ _ ⟨_, _, _, HF.sub (by repeat (first | exact ag_nil | refine ag_cons rfl ?_)), HS.rot.rot⟩
                    · refine op_ef (i := 11) HF rfl rfl rfl (ef_alloc HS ze38) ?_; clear HF HS ac; rintro _ w ac ⟨g14, rfl, HS⟩ HF
                      replace HH := HS.d3
                      refine ⟨fun _ => HH, ?_⟩
                      refine dx_one (i := 9) (by kernel_rfl) ?_
                      refine op_call (i := 9) HF rfl Tryd.func39 (by kernel_rfl) (by kernel_rfl) (evs_cons rfl evs_nil) (HR3 w HS.kp) rfl rfl ?_; clear HF ac
                      rintro _ w ⟨rfl, k1⟩
                      refine ⟨_, rfl, fun ac HF => ?_⟩
                      replace HH := HH.call k1
                      replace HS := HS.call k1
                      clear k1
                      refine ⟨fun _ => HH, ?_⟩
                      refine dx_one (i := 13) (by kernel_rfl) ?_
                      refine op_ef0 (i := 13) HF rfl rfl (ef_store HS sz38 rfl rfl rfl) ?_; clear HS; rintro _ w HS
                      replace HH := HS.d3
                      refine ⟨fun _ => HH, ?_⟩
                      refine dx_one (i := 14) (by kernel_rfl) ?_
                      refine op_ef0 (i := 14) HF rfl rfl (ef_store HS sz38 rfl rfl rfl) ?_; clear HS; rintro _ w HS
                      replace HH := HS.d3
                      refine ⟨fun _ => HH, ?_⟩
                      refine dx_one (i := 15) (by kernel_rfl) ?_
                      refine op_ef0 (i := 15) HF rfl rfl (ef_store HS sz38 rfl rfl rfl) ?_; clear HS; rintro _ w HS
                      replace HH := HS.d3
                      refine ⟨fun _ => HH, ?_⟩
                      refine dx_done (by kernel_rfl) ?_
                      exact J _ _ ⟨_, _, _, HF.sub (by repeat (first | exact ag_nil | refine ag_cons rfl ?_)), HS.rot.rot⟩
                  · refine op_ef (i := 11) HF rfl rfl rfl (ef_alloc HS ze38) ?_; clear HF HS ac; rintro _ w ac ⟨g14, rfl, HS⟩ HF
                    replace HH := HS.d3
                    refine ⟨fun _ => HH, ?_⟩
                    refine dx_one (i := 7) (by kernel_rfl) ?_
                    refine op_call (i := 7) HF rfl Tryd.func39 (by kernel_rfl) (by kernel_rfl) (evs_cons rfl evs_nil) (HR2 w HS.kp) rfl rfl ?_; clear HF ac
                    rintro _ w ⟨rfl, k1⟩
                    refine ⟨_, rfl, fun ac HF => ?_⟩
                    replace HH := HH.call k1
                    replace HS := HS.call k1
                    clear k1
                    refine ⟨fun _ => HH, ?_⟩
                    refine dx_one (i := 9) (by kernel_rfl) ?_
                    refine op_call (i := 9) HF rfl Tryd.func39 (by kernel_rfl) (by kernel_rfl) (evs_cons rfl evs_nil) (HR3 w HS.kp) rfl rfl ?_; clear HF ac
                    rintro _ w ⟨rfl, k1⟩
                    refine ⟨_, rfl, fun ac HF => ?_⟩
                    replace HH := HH.call k1
                    replace HS := HS.call k1
                    clear k1
                    refine ⟨fun _ => HH, ?_⟩
                    refine dx_one (i := 13) (by kernel_rfl) ?_
                    refine op_ef0 (i := 13) HF rfl rfl (ef_store HS sz38 rfl rfl rfl) ?_; clear HS; rintro _ w HS
                    replace HH := HS.d3
                    refine ⟨fun _ => HH, ?_⟩
                    refine dx_one (i := 14) (by kernel_rfl) ?_
                    refine op_ef0 (i := 14) HF rfl rfl (ef_store HS sz38 rfl rfl rfl) ?_; clear HS; rintro _ w HS
                    replace HH := HS.d3
                    refine ⟨fun _ => HH, ?_⟩
                    refine dx_one (i := 15) (by kernel_rfl) ?_
                    refine op_ef0 (i := 15) HF rfl rfl (ef_store HS sz38 rfl rfl rfl) ?_; clear HS; rintro _ w HS
                    replace HH := HS.d3
                    refine ⟨fun _ => HH, ?_⟩
                    refine dx_done (by kernel_rfl) ?_
                    exact J _ _ ⟨_, _, _, HF.sub (by repeat (first | exact ag_nil | refine ag_cons rfl ?_)), HS.rot.rot⟩
                · refine op_ef (i := 11) HF rfl rfl rfl (ef_alloc HS ze38) ?_; clear HF HS ac; rintro _ w ac ⟨g14, rfl, HS⟩ HF
                  replace HH := HS.d2
                  refine ⟨fun _ => HH, ?_⟩
                  refine dx_two (i := 7) (j := 10) (by kernel_rfl) ?_ ?_
                  · refine op_call (i := 7) HF rfl Tryd.func39 (by kernel_rfl) (by kernel_rfl) (evs_cons rfl evs_nil) (HR2 w HS.kp) rfl rfl ?_; clear HF ac
                    rintro _ w ⟨rfl, k1⟩
                    refine ⟨_, rfl, fun ac HF => ?_⟩
                    replace HH := HH.call k1
                    replace HS := HS.call k1
                    clear k1
                    refine ⟨fun _ => HH, ?_⟩
                    refine dx_two (i := 9) (j := 10) (by kernel_rfl) ?_ ?_
                    · refine op_call (i := 9) HF rfl Tryd.func39 (by kernel_rfl) (by kernel_rfl) (evs_cons rfl evs_nil) (HR3 w HS.kp) rfl rfl ?_; clear HF ac
                      rintro _ w ⟨rfl, k1⟩
                      refine ⟨_, rfl, fun ac HF => ?_⟩
                      replace HH := HH.call k1
                      replace HS := HS.call k1
                      clear k1
                      refine ⟨fun _ => HH, ?_⟩
                      refine dx_one (i := 10) (by kernel_rfl) ?_
                      refine op_ef (i := 10) HF rfl rfl rfl (ef_alloc HS ze38) ?_; clear HF HS ac; rintro _ w ac ⟨g13, rfl, HS⟩ HF
                      replace HH := HS.d3
                      refine ⟨fun _ => HH, ?_⟩
                      refine dx_one (i := 13) (by kernel_rfl) ?_
                      refine op_ef0 (i := 13) HF rfl rfl (ef_store HS sz38 rfl rfl rfl) ?_; clear HS; rintro _ w HS
                      replace HH := HS.d3
                      refine ⟨fun _ => HH, ?_⟩
                      refine dx_one (i := 14) (by kernel_rfl) ?_
                      refine op_ef0 (i := 14) HF rfl rfl (ef_store HS sz38 rfl rfl rfl) ?_; clear HS; rintro _ w HS
                      replace HH := HS.d3
                      refine ⟨fun _ => HH, ?_⟩
                      refine dx_one (i := 15) (by kernel_rfl) ?_
                      refine op_ef0 (i := 15) HF rfl rfl (ef_store HS sz38 rfl rfl rfl) ?_; clear HS; rintro _ w HS
                      replace HH := HS.d3
                      refine ⟨fun _ => HH, ?_⟩
                      refine dx_done (by kernel_rfl) ?_
                      exact J _ _ ⟨_, _, _, HF.sub (by repeat (first | exact ag_nil | refine ag_cons rfl ?_)), HS.rot.swap⟩
                    · refine op_ef (i := 10) HF rfl rfl rfl (ef_alloc HS ze38) ?_; clear HF HS ac; rintro _ w ac ⟨g13, rfl, HS⟩ HF
                      replace HH := HS.d3
                      refine ⟨fun _ => HH, ?_⟩
                      refine dx_one (i := 9) (by kernel_rfl) ?_
                      refine op_call (i := 9) HF rfl Tryd.func39 (by kernel_rfl) (by kernel_rfl) (evs_cons rfl evs_nil) (HR3 w HS.kp) rfl rfl ?_; clear HF ac
                      rintro _ w ⟨rfl, k1⟩
                      refine ⟨_, rfl, fun ac HF => ?_⟩
                      replace HH := HH.call k1
                      replace HS := HS.call k1
                      clear k1
                      refine ⟨fun _ => HH, ?_⟩
                      refine dx_one (i := 13) (by kernel_rfl) ?_
                      refine op_ef0 (i := 13) HF rfl rfl (ef_store HS sz38 rfl rfl rfl) ?_; clear HS; rintro _ w HS
                      replace HH := HS.d3
                      refine ⟨fun _ => HH, ?_⟩
                      refine dx_one (i := 14) (by kernel_rfl) ?_
                      refine op_ef0 (i := 14) HF rfl rfl (ef_store HS sz38 rfl rfl rfl) ?_; clear HS; rintro _ w HS
                      replace HH := HS.d3
                      refine ⟨fun _ => HH, ?_⟩
                      refine dx_one (i := 15) (by kernel_rfl) ?_
                      refine op_ef0 (i := 15) HF rfl rfl (ef_store HS sz38 rfl rfl rfl) ?_; clear HS; rintro _ w HS
                      replace HH := HS.d3
                      refine ⟨fun _ => HH, ?_⟩
                      refine dx_done (by kernel_rfl) ?_
                      exact J _ _ ⟨_, _, _, HF.sub (by repeat (first | exact ag_nil | refine ag_cons rfl ?_)), HS.rot.swap⟩
                  · refine op_ef (i := 10) HF rfl rfl rfl (ef_alloc HS ze38) ?_; clear HF HS ac; rintro _ w ac ⟨g13, rfl, HS⟩ HF
                    replace HH := HS.d3
                    refine ⟨fun _ => HH, ?_⟩
                    refine dx_one (i := 7) (by kernel_rfl) ?_
                    refine op_call (i := 7) HF rfl Tryd.func39 (by kernel_rfl) (by kernel_rfl) (evs_cons rfl evs_nil) (HR2 w HS.kp) rfl rfl ?_; clear HF ac
                    rintro _ w ⟨rfl, k1⟩
                    refine ⟨_, rfl, fun ac HF => ?_⟩
                    replace HH := HH.call k1
                    replace HS := HS.call k1
                    clear k1
                    refine ⟨fun _ => HH, ?_⟩
                    refine dx_one (i := 9) (by kernel_rfl) ?_
                    refine op_call (i := 9) HF rfl Tryd.func39 (by kernel_rfl) (by kernel_rfl) (evs_cons rfl evs_nil) (HR3 w HS.kp) rfl rfl ?_; clear HF ac
                    rintro _ w ⟨rfl, k1⟩
                    refine ⟨_, rfl, fun ac HF => ?_⟩
                    replace HH := HH.call k1
                    replace HS := HS.call k1
                    clear k1
                    refine ⟨fun _ => HH, ?_⟩
                    refine dx_one (i := 13) (by kernel_rfl) ?_
                    refine op_ef0 (i := 13) HF rfl rfl (ef_store HS sz38 rfl rfl rfl) ?_; clear HS; rintro _ w HS
                    replace HH := HS.d3
                    refine ⟨fun _ => HH, ?_⟩
                    refine dx_one (i := 14) (by kernel_rfl) ?_
                    refine op_ef0 (i := 14) HF rfl rfl (ef_store HS sz38 rfl rfl rfl) ?_; clear HS; rintro _ w HS
                    replace HH := HS.d3
                    refine ⟨fun _ => HH, ?_⟩
                    refine dx_one (i := 15) (by kernel_rfl) ?_
                    refine op_ef0 (i := 15) HF rfl rfl (ef_store HS sz38 rfl rfl rfl) ?_; clear HS; rintro _ w HS
                    replace HH := HS.d3
                    refine ⟨fun _ => HH, ?_⟩
                    refine dx_done (by kernel_rfl) ?_
                    exact J _ _ ⟨_, _, _, HF.sub (by repeat (first | exact ag_nil | refine ag_cons rfl ?_)), HS.rot.swap⟩
            · refine op_ef (i := 10) HF rfl rfl rfl (ef_alloc HS ze38) ?_; clear HF HS ac; rintro _ w ac ⟨g13, rfl, HS⟩ HF
              replace HH := HS.d1
              refine ⟨fun _ => HH, ?_⟩
              refine dx_three (i := 3) (j := 11) (j2 := 12) (by kernel_rfl) ?_ ?_ ?_
              · refine op_call (i := 3) HF rfl Tryd.func39 (by kernel_rfl) (by kernel_rfl) (evs_cons rfl evs_nil) (HR1 w HS.kp) rfl rfl ?_; clear HF ac
                rintro _ w ⟨rfl, k1⟩
                refine ⟨_, rfl, fun ac HF => ?_⟩
                replace HH := HH.call k1
                replace HS := HS.call k1
                clear k1
                refine ⟨fun _ => HH, ?_⟩
                refine dx_three (i := 7) (j := 11) (j2 := 12) (by kernel_rfl) ?_ ?_ ?_
                · refine op_call (i := 7) HF rfl Tryd.func39 (by kernel_rfl) (by kernel_rfl) (evs_cons rfl evs_nil) (HR2 w HS.kp) rfl rfl ?_; clear HF ac
                  rintro _ w ⟨rfl, k1⟩
                  refine ⟨_, rfl, fun ac HF => ?_⟩
                  replace HH := HH.call k1
                  replace HS := HS.call k1
                  clear k1
                  refine ⟨fun _ => HH, ?_⟩
                  refine dx_three (i := 9) (j := 11) (j2 := 12) (by kernel_rfl) ?_ ?_ ?_
                  · refine op_call (i := 9) HF rfl Tryd.func39 (by kernel_rfl) (by kernel_rfl) (evs_cons rfl evs_nil) (HR3 w HS.kp) rfl rfl ?_; clear HF ac
                    rintro _ w ⟨rfl, k1⟩
                    refine ⟨_, rfl, fun ac HF => ?_⟩
                    replace HH := HH.call k1
                    replace HS := HS.call k1
                    clear k1
                    refine ⟨fun _ => HH, ?_⟩
                    refine dx_two (i := 11) (j := 12) (by kernel_rfl) ?_ ?_
                    · refine op_ef (i := 11) HF rfl rfl rfl (ef_alloc HS ze38) ?_; clear HF HS ac; rintro _ w ac ⟨g14, rfl, HS⟩ HF
                      replace HH := HS.d2
                      refine ⟨fun _ => HH, ?_⟩
                      refine dx_one (i := 12) (by kernel_rfl) ?_
                      refine op_ef (i := 12) HF rfl rfl rfl (ef_alloc HS ze38) ?_; clear HF HS ac; rintro _ w ac ⟨g15, rfl, HS⟩ HF
                      replace HH := HS.d3
                      refine ⟨fun _ => HH, ?_⟩
                      refine dx_one (i := 13) (by kernel_rfl) ?_
                      refine op_ef0 (i := 13) HF rfl rfl (ef_store HS sz38 rfl rfl rfl) ?_; clear HS; rintro _ w HS
                      replace HH := HS.d3
                      refine ⟨fun _ => HH, ?_⟩
                      refine dx_one (i := 14) (by kernel_rfl) ?_
                      refine op_ef0 (i := 14) HF rfl rfl (ef_store HS sz38 rfl rfl rfl) ?_; clear HS; rintro _ w HS
                      replace HH := HS.d3
                      refine ⟨fun _ => HH, ?_⟩
                      refine dx_one (i := 15) (by kernel_rfl) ?_
                      refine op_ef0 (i := 15) HF rfl rfl (ef_store HS sz38 rfl rfl rfl) ?_; clear HS; rintro _ w HS
                      replace HH := HS.d3
                      refine ⟨fun _ => HH, ?_⟩
                      refine dx_done (by kernel_rfl) ?_
                      exact J _ _ ⟨_, _, _, HF.sub (by repeat (first | exact ag_nil | refine ag_cons rfl ?_)), HS⟩
                    · refine op_ef (i := 12) HF rfl rfl rfl (ef_alloc HS ze38) ?_; clear HF HS ac; rintro _ w ac ⟨g15, rfl, HS⟩ HF
                      replace HH := HS.d2
                      refine ⟨fun _ => HH, ?_⟩
                      refine dx_one (i := 11) (by kernel_rfl) ?_
                      refine op_ef (i := 11) HF rfl rfl rfl (ef_alloc HS ze38) ?_; clear HF HS ac; rintro _ w ac ⟨g14, rfl, HS⟩ HF
                      replace HH := HS.d3
                      refine ⟨fun _ => HH, ?_⟩
                      refine dx_one (i := 13) (by kernel_rfl) ?_
                      refine op_ef0 (i := 13) HF rfl rfl (ef_store HS sz38 rfl rfl rfl) ?_; clear HS; rintro _ w HS
                      replace HH := HS.d3
                      refine ⟨fun _ => HH, ?_⟩
                      refine dx_one (i := 14) (by kernel_rfl) ?_
                      refine op_ef0 (i := 14) HF rfl rfl (ef_store HS sz38 rfl rfl rfl) ?_; clear HS; rintro _ w HS
                      replace HH := HS.d3
                      refine ⟨fun _ => HH, ?_⟩
                      refine dx_one (i := 15) (by kernel_rfl) ?_
                      refine op_ef0 (i := 15) HF rfl rfl (ef_store HS sz38 rfl rfl rfl) ?_; clear HS; rintro _ w HS
                      replace HH := HS.d3
                      refine ⟨fun _ => HH, ?_⟩
                      refine dx_done (by kernel_rfl) ?_
                      exact J _ _ ⟨_, _, _, HF.sub (by repeat (first | exact ag_nil | refine ag_cons rfl ?_)), HS.swap⟩
                  · refine op_ef (i := 11) HF rfl rfl rfl (ef_alloc HS ze38) ?_; clear HF HS ac; rintro _ w ac ⟨g14, rfl, HS⟩ HF
                    replace HH := HS.d2
                    refine ⟨fun _ => HH, ?_⟩
                    refine dx_two (i := 9) (j := 12) (by kernel_rfl) ?_ ?_
                    · refine op_call (i := 9) HF rfl Tryd.func39 (by kernel_rfl) (by kernel_rfl) (evs_cons rfl evs_nil) (HR3 w HS.kp) rfl rfl ?_; clear HF ac
                      rintro _ w ⟨rfl, k1⟩
                      refine ⟨_, rfl, fun ac HF => ?_⟩
                      replace HH := HH.call k1
                      replace HS := HS.call k1
                      clear k1
                      refine ⟨fun _ => HH, ?_⟩
                      refine dx_one (i := 12) (by kernel_rfl) ?_
                      refine op_ef (i := 12) HF rfl rfl rfl (ef_alloc HS ze38) ?_; clear HF HS ac; rintro _ w ac ⟨g15, rfl, HS⟩ HF
                      replace HH := HS.d3
                      refine ⟨fun _ => HH, ?_⟩
                      refine dx_one (i := 13) (by kernel_rfl) ?_
                      refine op_ef0 (i := 13) HF rfl rfl (ef_store HS sz38 rfl rfl rfl) ?_; clear HS; rintro _ w HS
                      replace HH := HS.d3
                      refine ⟨fun _ => HH, ?_⟩
                      refine dx_one (i := 14) (by kernel_rfl) ?_
                      refine op_ef0 (i := 14) HF rfl rfl (ef_store HS sz38 rfl rfl rfl) ?_; clear HS; rintro _ w HS
                      replace HH := HS.d3
                      refine ⟨fun _ => HH, ?_⟩
                      refine dx_one (i := 15) (by kernel_rfl) ?_
                      refine op_ef0 (i := 15) HF rfl rfl (ef_store HS sz38 rfl rfl rfl) ?_; clear HS; rintro _ w HS
                      replace HH := HS.d3
                      refine ⟨fun _ => HH, ?_⟩
                      refine dx_done (by kernel_rfl) ?_
                      exact J _ _ ⟨_, _, _, HF.sub (by repeat (first | exact ag_nil | refine ag_cons rfl ?_)), HS⟩
                    · refine op_ef (i := 12) HF rfl rfl rfl (ef_alloc HS ze38) ?_; clear HF HS ac; rintro _ w ac ⟨g15, rfl, HS⟩ HF
                      replace HH := HS.d3
                      refine ⟨fun _ => HH, ?_⟩
                      refine dx_one (i := 9) (by kernel_rfl) ?_
                      refine op_call (i := 9) HF rfl Tryd.func39 (by kernel_rfl) (by kernel_rfl) (evs_cons rfl evs_nil) (HR3 w HS.kp) rfl rfl ?_; clear HF ac
                      rintro _ w ⟨rfl, k1⟩
                      refine ⟨_, rfl, fun ac HF => ?_⟩
                      replace HH := HH.call k1
                      replace HS := HS.call k1
                      clear k1
                      refine ⟨fun _ => HH, ?_⟩
                      refine dx_one (i := 13) (by kernel_rfl) ?_
                      refine op_ef0 (i := 13) HF rfl rfl (ef_store HS sz38 rfl rfl rfl) ?_; clear HS; rintro _ w HS
                      replace HH := HS.d3
                      refine ⟨fun _ => HH, ?_⟩
                      refine dx_one (i := 14) (by kernel_rfl) ?_
                      refine op_ef0 (i := 14) HF rfl rfl (ef_store HS sz38 rfl rfl rfl) ?_; clear HS; rintro _ w HS
                      replace HH := HS.d3
                      refine ⟨fun _ => HH, ?_⟩
                      refine dx_one (i := 15) (by kernel_rfl) ?_
                      refine op_ef0 (i := 15) HF rfl rfl (ef_store HS sz38 rfl rfl rfl) ?_; clear HS; rintro _ w HS
                      replace HH := HS.d3
                      refine ⟨fun _ => HH, ?_⟩
                      refine dx_done (by kernel_rfl) ?_
                      exact J _ _ ⟨_, _, _, HF.sub (by repeat (first | exact ag_nil | refine ag_cons rfl ?_)), HS⟩
                  · refine op_ef (i := 12) HF rfl rfl rfl (ef_alloc HS ze38) ?_; clear HF HS ac; rintro _ w ac ⟨g15, rfl, HS⟩ HF
                    replace HH := HS.d2
                    refine ⟨fun _ => HH, ?_⟩
                    refine dx_two (i := 9) (j := 11) (by kernel_rfl) ?_ ?_
                    · refine op_call (i := 9) HF rfl Tryd.func39 (by kernel_rfl) (by kernel_rfl) (evs_cons rfl evs_nil) (HR3 w HS.kp) rfl rfl ?_; clear HF ac
                      rintro _ w ⟨rfl, k1⟩
                      refine ⟨_, rfl, fun ac HF => ?_⟩
                      replace HH := HH.call k1
                      replace HS := HS.call k1
                      clear k1
                      refine ⟨fun _ => HH, ?_⟩
                      refine dx_one (i := 11) (by kernel_rfl) ?_
                      refine op_ef (i := 11) HF rfl rfl rfl (ef_alloc HS ze38) ?_; clear HF HS ac; rintro _ w ac ⟨g14, rfl, HS⟩ HF
                      replace HH := HS.d3
                      refine ⟨fun _ => HH, ?_⟩
                      refine dx_one (i := 13) (by kernel_rfl) ?_
                      refine op_ef0 (i := 13) HF rfl rfl (ef_store HS sz38 rfl rfl rfl) ?_; clear HS; rintro _ w HS
                      replace HH := HS.d3
                      refine ⟨fun _ => HH, ?_⟩
                      refine dx_one (i := 14) (by kernel_rfl) ?_
                      refine op_ef0 (i := 14) HF rfl rfl (ef_store HS sz38 rfl rfl rfl) ?_; clear HS; rintro _ w HS
                      replace HH := HS.d3
                      refine ⟨fun _ => HH, ?_⟩
                      refine dx_one (i := 15) (by kernel_rfl) ?_
                      refine op_ef0 (i := 15) HF rfl rfl (ef_store HS sz38 rfl rfl rfl) ?_; clear HS; rintro _ w HS
                      replace HH := HS.d3
                      refine ⟨fun _ => HH, ?_⟩
                      refine dx_done (by kernel_rfl) ?_
                      exact J _ _ ⟨_, _, _, HF.sub (by repeat (first | exact ag_nil | refine ag_cons rfl ?_)), HS.swap⟩
                    · refine op_ef (i := 11) HF rfl rfl rfl (ef_alloc HS ze38) ?_; clear HF HS ac; rintro _ w ac ⟨g14, rfl, HS⟩ HF
                      replace HH := HS.d3
                      refine ⟨fun _ => HH, ?_⟩
                      refine dx_one (i := 9) (by kernel_rfl) ?_
                      refine op_call (i := 9) HF rfl Tryd.func39 (by kernel_rfl) (by kernel_rfl) (evs_cons rfl evs_nil) (HR3 w HS.kp) rfl rfl ?_; clear HF ac
                      rintro _ w ⟨rfl, k1⟩
                      refine ⟨_, rfl, fun ac HF => ?_⟩
                      replace HH := HH.call k1
                      replace HS := HS.call k1
                      clear k1
                      refine ⟨fun _ => HH, ?_⟩
                      refine dx_one (i := 13) (by kernel_rfl) ?_
                      refine op_ef0 (i := 13) HF rfl rfl (ef_store HS sz38 rfl rfl rfl) ?_; clear HS; rintro _ w HS
                      replace HH := HS.d3
                      refine ⟨fun _ => HH, ?_⟩
                      refine dx_one (i := 14) (by kernel_rfl) ?_
                      refine op_ef0 (i := 14) HF rfl rfl (ef_store HS sz38 rfl rfl rfl) ?_; clear HS; rintro _ w HS
                      replace HH := HS.d3
                      refine ⟨fun _ => HH, ?_⟩
                      refine dx_one (i := 15) (by kernel_rfl) ?_
                      refine op_ef0 (i := 15) HF rfl rfl (ef_store HS sz38 rfl rfl rfl) ?_; clear HS; rintro _ w HS
                      replace HH := HS.d3
                      refine ⟨fun _ => HH, ?_⟩
                      refine dx_done (by kernel_rfl) ?_
                      exact J _ _ ⟨_, _, _, HF.sub (by repeat (first | exact ag_nil | refine ag_cons rfl ?_)), HS.swap⟩
                · refine op_ef (i := 11) HF rfl rfl rfl (ef_alloc HS ze38) ?_; clear HF HS ac; rintro _ w ac ⟨g14, rfl, HS⟩ HF
                  replace HH := HS.d2
                  refine ⟨fun _ => HH, ?_⟩
                  refine dx_two (i := 7) (j := 12) (by kernel_rfl) ?_ ?_
                  · refine op_call (i := 7) HF rfl Tryd.func39 (by kernel_rfl) (by kernel_rfl) (evs_cons rfl evs_nil) (HR2 w HS.kp) rfl rfl ?_; clear HF ac
                    rintro _ w ⟨rfl, k1⟩
                    refine ⟨_, rfl, fun ac HF => ?_⟩
                    replace HH := HH.call k1
                    replace HS := HS.call k1
                    clear k1
                    refine ⟨fun _ => HH, ?_⟩
                    refine dx_two (i := 9) (j := 12) (by kernel_rfl) ?_ ?_
                    · refine op_call (i := 9) HF rfl Tryd.func39 (by kernel_rfl) (by kernel_rfl) (evs_cons rfl evs_nil) (HR3 w HS.kp) rfl rfl ?_; clear HF ac
                      rintro _ w ⟨rfl, k1⟩
                      refine ⟨_, rfl, fun ac HF => ?_⟩
                      replace HH := HH.call k1
                      replace HS := HS.call k1
                      clear k1
                      refine ⟨fun _ => HH, ?_⟩
                      refine dx_one (i := 12) (by kernel_rfl) ?_
                      refine op_ef (i := 12) HF rfl rfl rfl (ef_alloc HS ze38) ?_; clear HF HS ac; rintro _ w ac ⟨g15, rfl, HS⟩ HF
                      replace HH := HS.d3
                      refine ⟨fun _ => HH, ?_⟩
                      refine dx_one (i := 13) (by kernel_rfl) ?_
                      refine op_ef0 (i := 13) HF rfl rfl (ef_store HS sz38 rfl rfl rfl) ?_; clear HS; rintro _ w HS
                      replace HH := HS.d3
                      refine ⟨fun _ => HH, ?_⟩
                      refine dx_one (i := 14) (by kernel_rfl) ?_
                      refine op_ef0 (i := 14) HF rfl rfl (ef_store HS sz38 rfl rfl rfl) ?_; clear HS; rintro _ w HS
                      replace HH := HS.d3
                      refine ⟨fun _ => HH, ?_⟩
                      refine dx_one (i := 15) (by kernel_rfl) ?_
                      refine op_ef0 (i := 15) HF rfl rfl (ef_store HS sz38 rfl rfl rfl) ?_; clear HS; rintro _ w HS
                      replace HH := HS.d3
                      refine ⟨fun _ => HH, ?_⟩
                      refine dx_done (by kernel_rfl) ?_
                      exact J _ _ ⟨_, _, _, HF.sub (by repeat (first | exact ag_nil | refine ag_cons rfl ?_)), HS⟩
                    · refine op_ef (i := 12) HF rfl rfl rfl (ef_alloc HS ze38) ?_; clear HF HS ac; rintro _ w ac ⟨g15, rfl, HS⟩ HF
                      replace HH := HS.d3
                      refine ⟨fun _ => HH, ?_⟩
                      refine dx_one (i := 9) (by kernel_rfl) ?_
                      refine op_call (i := 9) HF rfl Tryd.func39 (by kernel_rfl) (by kernel_rfl) (evs_cons rfl evs_nil) (HR3 w HS.kp) rfl rfl ?_; clear HF ac
                      rintro _ w ⟨rfl, k1⟩
                      refine ⟨_, rfl, fun ac HF => ?_⟩
                      replace HH := HH.call k1
                      replace HS := HS.call k1
                      clear k1
                      refine ⟨fun _ => HH, ?_⟩
                      refine dx_one (i := 13) (by kernel_rfl) ?_
                      refine op_ef0 (i := 13) HF rfl rfl (ef_store HS sz38 rfl rfl rfl) ?_; clear HS; rintro _ w HS
                      replace HH := HS.d3
                      refine ⟨fun _ => HH, ?_⟩
                      refine dx_one (i := 14) (by kernel_rfl) ?_
                      refine op_ef0 (i := 14) HF rfl rfl (ef_store HS sz38 rfl rfl rfl) ?_; clear HS; rintro _ w HS
                      replace HH := HS.d3
                      refine ⟨fun _ => HH, ?_⟩
                      refine dx_one (i := 15) (by kernel_rfl) ?_
                      refine op_ef0 (i := 15) HF rfl rfl (ef_store HS sz38 rfl rfl rfl) ?_; clear HS; rintro _ w HS
                      replace HH := HS.d3
                      refine ⟨fun _ => HH, ?_⟩
                      refine dx_done (by kernel_rfl) ?_
                      exact J _ _ ⟨_, _, _, HF.sub (by repeat (first | exact ag_nil | refine ag_cons rfl ?_)), HS⟩
                  · refine op_ef (i := 12) HF rfl rfl rfl (ef_alloc HS ze38) ?_; clear HF HS ac; rintro _ w ac ⟨g15, rfl, HS⟩ HF
                    replace HH := HS.d3
                    refine ⟨fun _ => HH, ?_⟩
                    refine dx_one (i := 7) (by kernel_rfl) ?_
                    refine op_call (i := 7) HF rfl Tryd.func39 (by kernel_rfl) (by kernel_rfl) (evs_cons rfl evs_nil) (HR2 w HS.kp) rfl rfl ?_; clear HF ac
                    rintro _ w ⟨rfl, k1⟩
                    refine ⟨_, rfl, fun ac HF => ?_⟩
                    replace HH := HH.call k1
                    replace HS := HS.call k1
                    clear k1
                    refine ⟨fun _ => HH, ?_⟩
                    refine dx_one (i := 9) (by kernel_rfl) ?_
                    refine op_call (i := 9) HF rfl Tryd.func39 (by kernel_rfl) (by kernel_rfl) (evs_cons rfl evs_nil) (HR3 w HS.kp) rfl rfl ?_; clear HF ac
                    rintro _ w ⟨rfl, k1⟩
                    refine ⟨_, rfl, fun ac HF => ?_⟩
                    replace HH := HH.call k1
                    replace HS := HS.call k1
                    clear k1
                    refine ⟨fun _ => HH, ?_⟩
                    refine dx_one (i := 13) (by kernel_rfl) ?_
                    refine op_ef0 (i := 13) HF rfl rfl (ef_store HS sz38 rfl rfl rfl) ?_; clear HS; rintro _ w HS
                    replace HH := HS.d3
                    refine ⟨fun _ => HH, ?_⟩
                    refine dx_one (i := 14) (by kernel_rfl) ?_
                    refine op_ef0 (i := 14) HF rfl rfl (ef_store HS sz38 rfl rfl rfl) ?_; clear HS; rintro _ w HS
                    replace HH := HS.d3
                    refine ⟨fun _ => HH, ?_⟩
                    refine dx_one (i := 15) (by kernel_rfl) ?_
                    refine op_ef0 (i := 15) HF rfl rfl (ef_store HS sz38 rfl rfl rfl) ?_; clear HS; rintro _ w HS
                    replace HH := HS.d3
                    refine ⟨fun _ => HH, ?_⟩
                    refine dx_done (by kernel_rfl) ?_
                    exact J _ _ ⟨_, _, _, HF.sub (by repeat (first | exact ag_nil | refine ag_cons rfl ?_)), HS⟩
                · refine op_ef (i := 12) HF rfl rfl rfl (ef_alloc HS ze38) ?_; clear HF HS ac; rintro _ w ac ⟨g15, rfl, HS⟩ HF
                  replace HH := HS.d2
                  refine ⟨fun _ => HH, ?_⟩
                  refine dx_two (i := 7) (j := 11) (by kernel_rfl) ?_ ?_
                  · refine op_call (i := 7) HF rfl Tryd.func39 (by kernel_rfl) (by kernel_rfl) (evs_cons rfl evs_nil) (HR2 w HS.kp) rfl rfl ?_; clear HF ac
                    rintro _ w ⟨rfl, k1⟩
                    refine ⟨_, rfl, fun ac HF => ?_⟩
                    replace HH := HH.call k1
                    replace HS := HS.call k1
                    clear k1
                    refine ⟨fun _ => HH, ?_⟩
                    refine dx_two (i := 9) (j := 11) (by kernel_rfl) ?_ ?_
                    · refine op_call (i := 9) HF rfl Tryd.func39 (by kernel_rfl) (by kernel_rfl) (evs_cons rfl evs_nil) (HR3 w HS.kp) rfl rfl ?_; clear HF ac
                      rintro _ w ⟨rfl, k1⟩
                      refine ⟨_, rfl, fun ac HF => ?_⟩
                      replace HH := HH.call k1
                      replace HS := HS.call k1
                      clear k1
                      refine ⟨fun _ => HH, ?_⟩
                      refine dx_one (i := 11) (by kernel_rfl) ?_
                      refine op_ef (i := 11) HF rfl rfl rfl (ef_alloc HS ze38) ?_; clear HF HS ac; rintro _ w ac ⟨g14, rfl, HS⟩ HF
                      replace HH := HS.d3
                      refine ⟨fun _ => HH, ?_⟩
                      refine dx_one (i := 13) (by kernel_rfl) ?_
                      refine op_ef0 (i := 13) HF rfl rfl (ef_store HS sz38 rfl rfl rfl) ?_; clear HS; rintro _ w HS
                      replace HH := HS.d3
                      refine ⟨fun _ => HH, ?_⟩
                      refine dx_one (i := 14) (by kernel_rfl) ?_
                      refine op_ef0 (i := 14) HF rfl rfl (ef_store HS sz38 rfl rfl rfl) ?_; clear HS; rintro _ w HS
                      replace HH := HS.d3
                      refine ⟨fun _ => HH, ?_⟩
                      refine dx_one (i := 15) (by kernel_rfl) ?_
                      refine op_ef0 (i := 15) HF rfl rfl (ef_store HS sz38 rfl rfl rfl) ?_; clear HS; rintro _ w HS
                      replace HH := HS.d3
                      refine ⟨fun _ => HH, ?_⟩
                      refine dx_done (by kernel_rfl) ?_
                      exact J _ _ ⟨_, _, _, HF.sub (by repeat (first | exact ag_nil | refine ag_cons rfl ?_)), HS.swap⟩
                    · refine op_ef (i := 11) HF rfl rfl rfl (ef_alloc HS ze38) ?_; clear HF HS ac; rintro _ w ac ⟨g14, rfl, HS⟩ HF
                      replace HH := HS.d3
                      refine ⟨fun _ => HH, ?_⟩
                      refine dx_one (i := 9) (by kernel_rfl) ?_
                      refine op_call (i := 9) HF rfl Tryd.func39 (by kernel_rfl) (by kernel_rfl) (evs_cons rfl evs_nil) (HR3 w HS.kp) rfl rfl ?_; clear HF ac
                      rintro _ w ⟨rfl, k1⟩
                      refine ⟨_, rfl, fun ac HF => ?_⟩
                      replace HH := HH.call k1
                      replace HS := HS.call k1
                      clear k1
                      refine ⟨fun _ => HH, ?_⟩
                      refine dx_one (i := 13) (by kernel_rfl) ?_
                      refine op_ef0 (i := 13) HF rfl rfl (ef_store HS sz38 rfl rfl rfl) ?_; clear HS; rintro _ w HS
                      replace HH := HS.d3
                      refine ⟨fun _ => HH, ?_⟩
                      refine dx_one (i := 14) (by kernel_rfl) ?_
                      refine op_ef0 (i := 14) HF rfl rfl (ef_store HS sz38 rfl rfl rfl) ?_; clear HS; rintro _ w HS
                      replace HH := HS.d3
                      refine ⟨fun _ => HH, ?_⟩
                      refine dx_one (i := 15) (by kernel_rfl) ?_
                      refine op_ef0 (i := 15) HF rfl rfl (ef_store HS sz38 rfl rfl rfl) ?_; clear HS; rintro _ w HS
                      replace HH := HS.d3
                      refine ⟨fun _ => HH, ?_⟩
                      refine dx_done (by kernel_rfl) ?_
                      exact J _ _ ⟨_, _, _, HF.sub (by repeat (first | exact ag_nil | refine ag_cons rfl ?_)), HS.swap⟩
                  · refine op_ef (i := 11) HF rfl rfl rfl (ef_alloc HS ze38) ?_; clear HF HS ac; rintro _ w ac ⟨g14, rfl, HS⟩ HF
                    replace HH := HS.d3
                    refine ⟨fun _ => HH, ?_⟩
                    refine dx_one (i := 7) (by kernel_rfl) ?_
                    refine op_call (i := 7) HF rfl Tryd.func39 (by kernel_rfl) (by kernel_rfl) (evs_cons rfl evs_nil) (HR2 w HS.kp) rfl rfl ?_; clear HF ac
                    rintro _ w ⟨rfl, k1⟩
                    refine ⟨_, rfl, fun ac HF => ?_⟩
                    replace HH := HH.call k1
                    replace HS := HS.call k1
                    clear k1
                    refine ⟨fun _ => HH, ?_⟩
                    refine dx_one (i := 9) (by kernel_rfl) ?_
                    refine op_call (i := 9) HF rfl Tryd.func39 (by kernel_rfl) (by kernel_rfl) (evs_cons rfl evs_nil) (HR3 w HS.kp) rfl rfl ?_; clear HF ac
                    rintro _ w ⟨rfl, k1⟩
                    refine ⟨_, rfl, fun ac HF => ?_⟩
                    replace HH := HH.call k1
                    replace HS := HS.call k1
                    clear k1
                    refine ⟨fun _ => HH, ?_⟩
                    refine dx_one (i := 13) (by kernel_rfl) ?_
                    refine op_ef0 (i := 13) HF rfl rfl (ef_store HS sz38 rfl rfl rfl) ?_; clear HS; rintro _ w HS
                    replace HH := HS.d3
                    refine ⟨fun _ => HH, ?_⟩
                    refine dx_one (i := 14) (by kernel_rfl) ?_
                    refine op_ef0 (i := 14) HF rfl rfl (ef_store HS sz38 rfl rfl rfl) ?_; clear HS; rintro _ w HS
                    replace HH := HS.d3
                    refine ⟨fun _ => HH, ?_⟩
                    refine dx_one (i := 15) (by kernel_rfl) ?_
                    refine op_ef0 (i := 15) HF rfl rfl (ef_store HS sz38 rfl rfl rfl) ?_; clear HS; rintro _ w HS
                    replace HH := HS.d3
                    refine ⟨fun _ => HH, ?_⟩
                    refine dx_done (by kernel_rfl) ?_
                    exact J _ _ ⟨_, _, _, HF.sub (by repeat (first | exact ag_nil | refine ag_cons rfl ?_)), HS.swap⟩
              · refine op_ef (i := 11) HF rfl rfl rfl (ef_alloc HS ze38) ?_; clear HF HS ac; rintro _ w ac ⟨g14, rfl, HS⟩ HF
                replace HH := HS.d2
                refine ⟨fun _ => HH, ?_⟩
                refine dx_two (i := 3) (j := 12) (by kernel_rfl) ?_ ?_
                · refine op_call (i := 3) HF rfl Tryd.func39 (by kernel_rfl) (by kernel_rfl) (evs_cons rfl evs_nil) (HR1 w HS.kp) rfl rfl ?_; clear HF ac
                  rintro _ w ⟨rfl, k1⟩
                  refine ⟨_, rfl, fun ac HF => ?_⟩
                  replace HH := HH.call k1
                  replace HS := HS.call k1
                  clear k1
                  refine ⟨fun _ => HH, ?_⟩
                  refine dx_two (i := 7) (j := 12) (by kernel_rfl) ?_ ?_
                  · refine op_call (i := 7) HF rfl Tryd.func39 (by kernel_rfl) (by kernel_rfl) (evs_cons rfl evs_nil) (HR2 w HS.kp) rfl rfl ?_; clear HF ac
                    rintro _ w ⟨rfl, k1⟩
                    refine ⟨_, rfl, fun ac HF => ?_⟩
                    replace HH := HH.call k1
                    replace HS := HS.call k1
                    clear k1
                    refine ⟨fun _ => HH, ?_⟩
                    refine dx_two (i := 9) (j := 12) (by kernel_rfl) ?_ ?_
                    · refine op_call (i := 9) HF rfl Tryd.func39 (by kernel_rfl) (by kernel_rfl) (evs_cons rfl evs_nil) (HR3 w HS.kp) rfl rfl ?_; clear HF ac
                      rintro _ w ⟨rfl, k1⟩
                      refine ⟨_, rfl, fun ac HF => ?_⟩
                      replace HH := HH.call k1
                      replace HS := HS.call k1
                      clear k1
                      refine ⟨fun _ => HH, ?_⟩
                      refine dx_one (i := 12) (by kernel_rfl) ?_
                      refine op_ef (i := 12) HF rfl rfl rfl (ef_alloc HS ze38) ?_; clear HF HS ac; rintro _ w ac ⟨g15, rfl, HS⟩ HF
                      replace HH := HS.d3
                      refine ⟨fun _ => HH, ?_⟩
                      refine dx_one (i := 13) (by kernel_rfl) ?_
                      refine op_ef0 (i := 13) HF rfl rfl (ef_store HS sz38 rfl rfl rfl) ?_; clear HS; rintro _ w HS
                      replace HH := HS.d3
                      refine ⟨fun _ => HH, ?_⟩
                      refine dx_one (i := 14) (by kernel_rfl) ?_
                      refine op_ef0 (i := 14) HF rfl rfl (ef_store HS sz38 rfl rfl rfl) ?_; clear HS; rintro _ w HS
                      replace HH := HS.d3
                      refine ⟨fun _ => HH, ?_⟩
                      refine dx_one (i := 15) (by kernel_rfl) ?_
                      refine op_ef0 (i := 15) HF rfl rfl (ef_store HS sz38 rfl rfl rfl) ?_; clear HS; rintro _ w HS
                      replace HH := HS.d3
                      refine ⟨fun _ => HH, ?_⟩
                      refine dx_done (by kernel_rfl) ?_
                      exact J _ _ ⟨_, _, _, HF.sub (by repeat (first | exact ag_nil | refine ag_cons rfl ?_)), HS⟩
                    · refine op_ef (i := 12) HF rfl rfl rfl (ef_alloc HS ze38) ?_; clear HF HS ac; rintro _ w ac ⟨g15, rfl, HS⟩ HF
                      replace HH := HS.d3
                      refine ⟨fun _ => HH, ?_⟩
                      refine dx_one (i := 9) (by kernel_rfl) ?_
                      refine op_call (i := 9) HF rfl Tryd.func39 (by kernel_rfl) (by kernel_rfl) (evs_cons rfl evs_nil) (HR3 w HS.kp) rfl rfl ?_; clear HF ac
                      rintro _ w ⟨rfl, k1⟩
                      refine ⟨_, rfl, fun ac HF => ?_⟩
                      replace HH := HH.call k1
                      replace HS := HS.call k1
                      clear k1
                      refine ⟨fun _ => HH, ?_⟩
                      refine dx_one (i := 13) (by kernel_rfl) ?_
                      refine op_ef0 (i := 13) HF rfl rfl (ef_store HS sz38 rfl rfl rfl) ?_; clear HS; rintro _ w HS
                      replace HH := HS.d3
                      refine ⟨fun _ => HH, ?_⟩
                      refine dx_one (i := 14) (by kernel_rfl) ?_
                      refine op_ef0 (i := 14) HF rfl rfl (ef_store HS sz38 rfl rfl rfl) ?_; clear HS; rintro _ w HS
                      replace HH := HS.d3
                      refine ⟨fun _ => HH, ?_⟩
                      refine dx_one (i := 15) (by kernel_rfl) ?_
                      refine op_ef0 (i := 15) HF rfl rfl (ef_store HS sz38 rfl rfl rfl) ?_; clear HS; rintro _ w HS
                      replace HH := HS.d3
                      refine ⟨fun _ => HH, ?_⟩
                      refine dx_done (by kernel_rfl) ?_
                      exact J _ _ ⟨_, _, _, HF.sub (by repeat (first | exact ag_nil | refine ag_cons rfl ?_)), HS⟩
                  · refine op_ef (i := 12) HF rfl rfl rfl (ef_alloc HS ze38) ?_; clear HF HS ac; rintro _ w ac ⟨g15, rfl, HS⟩ HF
                    replace HH := HS.d3
                    refine ⟨fun _ => HH, ?_⟩
                    refine dx_one (i := 7) (by kernel_rfl) ?_
                    refine op_call (i := 7) HF rfl Tryd.func39 (by kernel_rfl) (by kernel_rfl) (evs_cons rfl evs_nil) (HR2 w HS.kp) rfl rfl ?_; clear HF ac
                    rintro _ w ⟨rfl, k1⟩
                    refine ⟨_, rfl, fun ac HF => ?_⟩
                    replace HH := HH.call k1
                    replace HS := HS.call k1
                    clear k1
                    refine ⟨fun _ => HH, ?_⟩
                    refine dx_one (i := 9) (by kernel_rfl) ?_
                    refine op_call (i := 9) HF rfl Tryd.func39 (by kernel_rfl) (by kernel_rfl) (evs_cons rfl evs_nil) (HR3 w HS.kp) rfl rfl ?_; clear HF ac
                    rintro _ w ⟨rfl, k1⟩
                    refine ⟨_, rfl, fun ac HF => ?_⟩
                    replace HH := HH.call k1
                    replace HS := HS.call k1
                    clear k1
                    refine ⟨fun _ => HH, ?_⟩
                    refine dx_one (i := 13) (by kernel_rfl) ?_
                    refine op_ef0 (i := 13) HF rfl rfl (ef_store HS sz38 rfl rfl rfl) ?_; clear HS; rintro _ w HS
                    replace HH := HS.d3
                    refine ⟨fun _ => HH, ?_⟩
                    refine dx_one (i := 14) (by kernel_rfl) ?_
                    refine op_ef0 (i := 14) HF rfl rfl (ef_store HS sz38 rfl rfl rfl) ?_; clear HS; rintro _ w HS
                    replace HH := HS.d3
                    refine ⟨fun _ => HH, ?_⟩
                    refine dx_one (i := 15) (by kernel_rfl) ?_
                    refine op_ef0 (i := 15) HF rfl rfl (ef_store HS sz38 rfl rfl rfl) ?_; clear HS; rintro _ w HS
                    replace HH := HS.d3
                    refine ⟨fun _ => HH, ?_⟩
                    refine dx_done (by kernel_rfl) ?_
                    exact J _ _ ⟨_, _, _, HF.sub (by repeat (first | exact ag_nil | refine ag_cons rfl ?_)), HS⟩
                · refine op_ef (i := 12) HF rfl rfl rfl (ef_alloc HS ze38) ?_; clear HF HS ac; rintro _ w ac ⟨g15, rfl, HS⟩ HF
                  replace HH := HS.d3
                  refine ⟨fun _ => HH, ?_⟩
                  refine dx_one (i := 3) (by kernel_rfl) ?_
                  refine op_call (i := 3) HF rfl Tryd.func39 (by kernel_rfl) (by kernel_rfl) (evs_cons rfl evs_nil) (HR1 w HS.kp) rfl rfl ?_; clear HF ac
                  rintro _ w ⟨rfl, k1⟩
                  refine ⟨_, rfl, fun ac HF => ?_⟩
                  replace HH := HH.call k1
                  replace HS := HS.call k1
                  clear k1
                  refine ⟨fun _ => HH, ?_⟩
                  refine dx_one (i := 7) (by kernel_rfl) ?_
                  refine op_call (i := 7) HF rfl Tryd.func39 (by kernel_rfl) (by kernel_rfl) (evs_cons rfl evs_nil) (HR2 w HS.kp) rfl rfl ?_; clear HF ac
                  rintro _ w ⟨rfl, k1⟩
                  refine ⟨_, rfl, fun ac HF => ?_⟩
                  replace HH := HH.call k1
                  replace HS := HS.call k1
                  clear k1
                  refine ⟨fun _ => HH, ?_⟩
                  refine dx_one (i := 9) (by kernel_rfl) ?_
                  refine op_call (i := 9) HF rfl Tryd.func39 (by kernel_rfl) (by kernel_rfl) (evs_cons rfl evs_nil) (HR3 w HS.kp) rfl rfl ?_; clear HF ac
                  rintro _ w ⟨rfl, k1⟩
                  refine ⟨_, rfl, fun ac HF => ?_⟩
                  replace HH := HH.call k1
                  replace HS := HS.call k1
                  clear k1
                  refine ⟨fun _ => HH, ?_⟩
                  refine dx_one (i := 13) (by kernel_rfl) ?_
                  refine op_ef0 (i := 13) HF rfl rfl (ef_store HS sz38 rfl rfl rfl) ?_; clear HS; rintro _ w HS
                  replace HH := HS.d3
                  refine ⟨fun _ => HH, ?_⟩
                  refine dx_one (i := 14) (by kernel_rfl) ?_
                  refine op_ef0 (i := 14) HF rfl rfl (ef_store HS sz38 rfl rfl rfl) ?_; clear HS; rintro _ w HS
                  replace HH := HS.d3
                  refine ⟨fun _ => HH, ?_⟩
                  refine dx_one (i := 15) (by kernel_rfl) ?_
                  refine op_ef0 (i := 15) HF rfl rfl (ef_store HS sz38 rfl rfl rfl) ?_; clear HS; rintro _ w HS
                  replace HH := HS.d3
                  refine ⟨fun _ => HH, ?_⟩
                  refine dx_done (by kernel_rfl) ?_
                  exact J _ _ ⟨_, _, _, HF.sub (by repeat (first | exact ag_nil | refine ag_cons rfl ?_)), HS⟩
              · refine op_ef (i := 12) HF rfl rfl rfl (ef_alloc HS ze38) ?_; clear HF HS ac; rintro _ w ac ⟨g15, rfl, HS⟩ HF
                replace HH := HS.d2
                refine ⟨fun _ => HH, ?_⟩
                refine dx_two (i := 3) (j := 11) (by kernel_rfl) ?_ ?_
                · refine op_call (i := 3) HF rfl Tryd.func39 (by kernel_rfl) (by kernel_rfl) (evs_cons rfl evs_nil) (HR1 w HS.kp) rfl rfl ?_; clear HF ac
                  rintro _ w ⟨rfl, k1⟩
                  refine ⟨_, rfl, fun ac HF => ?_⟩
                  replace HH := HH.call k1
                  replace HS := HS.call k1
                  clear k1
                  refine ⟨fun _ => HH, ?_⟩
                  refine dx_two (i := 7) (j := 11) (by kernel_rfl) ?_ ?_
                  · refine op_call (i := 7) HF rfl Tryd.func39 (by kernel_rfl) (by kernel_rfl) (evs_cons rfl evs_nil) (HR2 w HS.kp) rfl rfl ?_; clear HF ac
                    rintro _ w ⟨rfl, k1⟩
                    refine ⟨_, rfl, fun ac HF => ?_⟩
                    replace HH := HH.call k1
                    replace HS := HS.call k1
                    clear k1
                    refine ⟨fun _ => HH, ?_⟩
                    refine dx_two (i := 9) (j := 11) (by kernel_rfl) ?_ ?_
                    · refine op_call (i := 9) HF rfl Tryd.func39 (by kernel_rfl) (by kernel_rfl) (evs_cons rfl evs_nil) (HR3 w HS.kp) rfl rfl ?_; clear HF ac
                      rintro _ w ⟨rfl, k1⟩
                      refine ⟨_, rfl, fun ac HF => ?_⟩
                      replace HH := HH.call k1
                      replace HS := HS.call k1
                      clear k1
                      refine ⟨fun _ => HH, ?_⟩
                      refine dx_one (i := 11) (by kernel_rfl) ?_
                      refine op_ef (i := 11) HF rfl rfl rfl (ef_alloc HS ze38) ?_; clear HF HS ac; rintro _ w ac ⟨g14, rfl, HS⟩ HF
                      replace HH := HS.d3
                      refine ⟨fun _ => HH, ?_⟩
                      refine dx_one (i := 13) (by kernel_rfl) ?_
                      refine op_ef0 (i := 13) HF rfl rfl (ef_store HS sz38 rfl rfl rfl) ?_; clear HS; rintro _ w HS
                      replace HH := HS.d3
                      refine ⟨fun _ => HH, ?_⟩
                      refine dx_one (i := 14) (by kernel_rfl) ?_
                      refine op_ef0 (i := 14) HF rfl rfl (ef_store HS sz38 rfl rfl rfl) ?_; clear HS; rintro _ w HS
                      replace HH := HS.d3
                      refine ⟨fun _ => HH, ?_⟩
                      refine dx_one (i := 15) (by kernel_rfl) ?_
                      refine op_ef0 (i := 15) HF rfl rfl (ef_store HS sz38 rfl rfl rfl) ?_; clear HS; rintro _ w HS
                      replace HH := HS.d3
                      refine ⟨fun _ => HH, ?_⟩
                      refine dx_done (by kernel_rfl) ?_
                      exact J _ _ ⟨_, _, _, HF.sub (by repeat (first | exact ag_nil | refine ag_cons rfl ?_)), HS.swap⟩
                    · refine op_ef (i := 11) HF rfl rfl rfl (ef_alloc HS ze38) ?_; clear HF HS ac; rintro _ w ac ⟨g14, rfl, HS⟩ HF
                      replace HH := HS.d3
                      refine ⟨fun _ => HH, ?_⟩
                      refine dx_one (i := 9) (by kernel_rfl) ?_
                      refine op_call (i := 9) HF rfl Tryd.func39 (by kernel_rfl) (by kernel_rfl) (evs_cons rfl evs_nil) (HR3 w HS.kp) rfl rfl ?_; clear HF ac
                      rintro _ w ⟨rfl, k1⟩
                      refine ⟨_, rfl, fun ac HF => ?_⟩
                      replace HH := HH.call k1
                      replace HS := HS.call k1
                      clear k1
                      refine ⟨fun _ => HH, ?_⟩
                      refine dx_one (i := 13) (by kernel_rfl) ?_
                      refine op_ef0 (i := 13) HF rfl rfl (ef_store HS sz38 rfl rfl rfl) ?_; clear HS; rintro _ w HS
                      replace HH := HS.d3
                      refine ⟨fun _ => HH, ?_⟩
                      refine dx_one (i := 14) (by kernel_rfl) ?_
                      refine op_ef0 (i := 14) HF rfl rfl (ef_store HS sz38 rfl rfl rfl) ?_; clear HS; rintro _ w HS
                      replace HH := HS.d3
                      refine ⟨fun _ => HH, ?_⟩
                      refine dx_one (i := 15) (by kernel_rfl) ?_
                      refine op_ef0 (i := 15) HF rfl rfl (ef_store HS sz38 rfl rfl rfl) ?_; clear HS; rintro _ w HS
                      replace HH := HS.d3
                      refine ⟨fun _ => HH, ?_⟩
                      refine dx_done (by kernel_rfl) ?_
                      exact J _ _ ⟨_, _, _, HF.sub (by repeat (first | exact ag_nil | refine ag_cons rfl ?_)), HS.swap⟩
                  · refine op_ef (i := 11) HF rfl rfl rfl (ef_alloc HS ze38) ?_; clear HF HS ac; rintro _ w ac ⟨g14, rfl, HS⟩ HF
                    replace HH := HS.d3
                    refine ⟨fun _ => HH, ?_⟩
                    refine dx_one (i := 7) (by kernel_rfl) ?_
                    refine op_call (i := 7) HF rfl Tryd.func39 (by kernel_rfl) (by kernel_rfl) (evs_cons rfl evs_nil) (HR2 w HS.kp) rfl rfl ?_; clear HF ac
                    rintro _ w ⟨rfl, k1⟩
                    refine ⟨_, rfl, fun ac HF => ?_⟩
                    replace HH := HH.call k1
                    replace HS := HS.call k1
                    clear k1
                    refine ⟨fun _ => HH, ?_⟩
                    refine dx_one (i := 9) (by kernel_rfl) ?_
                    refine op_call (i := 9) HF rfl Tryd.func39 (by kernel_rfl) (by kernel_rfl) (evs_cons rfl evs_nil) (HR3 w HS.kp) rfl rfl ?_; clear HF ac
                    rintro _ w ⟨rfl, k1⟩
                    refine ⟨_, rfl, fun ac HF => ?_⟩
                    replace HH := HH.call k1
                    replace HS := HS.call k1
                    clear k1
                    refine ⟨fun _ => HH, ?_⟩
                    refine dx_one (i := 13) (by kernel_rfl) ?_
                    refine op_ef0 (i := 13) HF rfl rfl (ef_store HS sz38 rfl rfl rfl) ?_; clear HS; rintro _ w HS
                    replace HH := HS.d3
                    refine ⟨fun _ => HH, ?_⟩
                    refine dx_one (i := 14) (by kernel_rfl) ?_
                    refine op_ef0 (i := 14) HF rfl rfl (ef_store HS sz38 rfl rfl rfl) ?_; clear HS; rintro _ w HS
                    replace HH := HS.d3
                    refine ⟨fun _ => HH, ?_⟩
                    refine dx_one (i := 15) (by kernel_rfl) ?_
                    refine op_ef0 (i := 15) HF rfl rfl (ef_store HS sz38 rfl rfl rfl) ?_; clear HS; rintro _ w HS
                    replace HH := HS.d3
                    refine ⟨fun _ => HH, ?_⟩
                    refine dx_done (by kernel_rfl) ?_
                    exact J _ _ ⟨_, _, _, HF.sub (by repeat (first | exact ag_nil | refine ag_cons rfl ?_)), HS.swap⟩
                · refine op_ef (i := 11) HF rfl rfl rfl (ef_alloc HS ze38) ?_; clear HF HS ac; rintro _ w ac ⟨g14, rfl, HS⟩ HF
                  replace HH := HS.d3
                  refine ⟨fun _ => HH, ?_⟩
                  refine dx_one (i := 3) (by kernel_rfl) ?_
                  refine op_call (i := 3) HF rfl Tryd.func39 (by kernel_rfl) (by kernel_rfl) (evs_cons rfl evs_nil) (HR1 w HS.kp) rfl rfl ?_; clear HF ac
                  rintro _ w ⟨rfl, k1⟩
                  refine ⟨_, rfl, fun ac HF => ?_⟩
                  replace HH := HH.call k1
                  replace HS := HS.call k1
                  clear k1
                  refine ⟨fun _ => HH, ?_⟩
                  refine dx_one (i := 7) (by kernel_rfl) ?_
                  refine op_call (i := 7) HF rfl Tryd.func39 (by kernel_rfl) (by kernel_rfl) (evs_cons rfl evs_nil) (HR2 w HS.kp) rfl rfl ?_; clear HF ac
                  rintro _ w ⟨rfl, k1⟩
                  refine ⟨_, rfl, fun ac HF => ?_⟩
                  replace HH := HH.call k1
                  replace HS := HS.call k1
                  clear k1
                  refine ⟨fun _ => HH, ?_⟩
                  refine dx_one (i := 9) (by kernel_rfl) ?_
                  refine op_call (i := 9) HF rfl Tryd.func39 (by kernel_rfl) (by kernel_rfl) (evs_cons rfl evs_nil) (HR3 w HS.kp) rfl rfl ?_; clear HF ac
                  rintro _ w ⟨rfl, k1⟩
                  refine ⟨_, rfl, fun ac HF => ?_⟩
                  replace HH := HH.call k1
                  replace HS := HS.call k1
                  clear k1
                  refine ⟨fun _ => HH, ?_⟩
                  refine dx_one (i := 13) (by kernel_rfl) ?_
                  refine op_ef0 (i := 13) HF rfl rfl (ef_store HS sz38 rfl rfl rfl) ?_; clear HS; rintro _ w HS
                  replace HH := HS.d3
                  refine ⟨fun _ => HH, ?_⟩
                  refine dx_one (i := 14) (by kernel_rfl) ?_
                  refine op_ef0 (i := 14) HF rfl rfl (ef_store HS sz38 rfl rfl rfl) ?_; clear HS; rintro _ w HS
                  replace HH := HS.d3
                  refine ⟨fun _ => HH, ?_⟩
                  refine dx_one (i := 15) (by kernel_rfl) ?_
                  refine op_ef0 (i := 15) HF rfl rfl (ef_store HS sz38 rfl rfl rfl) ?_; clear HS; rintro _ w HS
                  replace HH := HS.d3
                  refine ⟨fun _ => HH, ?_⟩
                  refine dx_done (by kernel_rfl) ?_
                  exact J _ _ ⟨_, _, _, HF.sub (by repeat (first | exact ag_nil | refine ag_cons rfl ?_)), HS.swap⟩
            · refine op_ef (i := 11) HF rfl rfl rfl (ef_alloc HS ze38) ?_; clear HF HS ac; rintro _ w ac ⟨g14, rfl, HS⟩ HF
              replace HH := HS.d1
              refine ⟨fun _ => HH, ?_⟩
              refine dx_three (i := 3) (j := 10) (j2 := 12) (by kernel_rfl) ?_ ?_ ?_
              · refine op_call (i := 3) HF rfl Tryd.func39 (by kernel_rfl) (by kernel_rfl) (evs_cons rfl evs_nil) (HR1 w HS.kp) rfl rfl ?_; clear HF ac
                rintro _ w ⟨rfl, k1⟩
                refine ⟨_, rfl, fun ac HF => ?_⟩
                replace HH := HH.call k1
                replace HS := HS.call k1
                clear k1
                refine ⟨fun _ => HH, ?_⟩
                refine dx_three (i := 7) (j := 10) (j2 := 12) (by kernel_rfl) ?_ ?_ ?_
                · refine op_call (i := 7) HF rfl Tryd.func39 (by kernel_rfl) (by kernel_rfl) (evs_cons rfl evs_nil) (HR2 w HS.kp) rfl rfl ?_; clear HF ac
                  rintro _ w ⟨rfl, k1⟩
                  refine ⟨_, rfl, fun ac HF => ?_⟩
                  replace HH := HH.call k1
                  replace HS := HS.call k1
                  clear k1
                  refine ⟨fun _ => HH, ?_⟩
                  refine dx_three (i := 9) (j := 10) (j2 := 12) (by kernel_rfl) ?_ ?_ ?_
                  · refine op_call (i := 9) HF rfl Tryd.func39 (by kernel_rfl) (by kernel_rfl) (evs_cons rfl evs_nil) (HR3 w HS.kp) rfl rfl ?_; clear HF ac
                    rintro _ w ⟨rfl, k1⟩
                    refine ⟨_, rfl, fun ac HF => ?_⟩
                    replace HH := HH.call k1
                    replace HS := HS.call k1
                    clear k1
                    refine ⟨fun _ => HH, ?_⟩
                    refine dx_two (i := 10) (j := 12) (by kernel_rfl) ?_ ?_
                    · refine op_ef (i := 10) HF rfl rfl rfl (ef_alloc HS ze38) ?_; clear HF HS ac; rintro _ w ac ⟨g13, rfl, HS⟩ HF
                      replace HH := HS.d2
                      refine ⟨fun _ => HH, ?_⟩
                      refine dx_one (i := 12) (by kernel_rfl) ?_
                      refine op_ef (i := 12) HF rfl rfl rfl (ef_alloc HS ze38) ?_; clear HF HS ac; rintro _ w ac ⟨g15, rfl, HS⟩ HF
                      replace HH := HS.d3
                      refine ⟨fun _ => HH, ?_⟩
                      refine dx_one (i := 13) (by kernel_rfl) ?_
                      refine op_ef0 (i := 13) HF rfl rfl (ef_store HS sz38 rfl rfl rfl) ?_; clear HS; rintro _ w HS
                      replace HH := HS.d3
                      refine ⟨fun _ => HH, ?_⟩
                      refine dx_one (i := 14) (by kernel_rfl) ?_
                      refine op_ef0 (i := 14) HF rfl rfl (ef_store HS sz38 rfl rfl rfl) ?_; clear HS; rintro _ w HS
                      replace HH := HS.d3
                      refine ⟨fun _ => HH, ?_⟩
                      refine dx_one (i := 15) (by kernel_rfl) ?_
                      refine op_ef0 (i := 15) HF rfl rfl (ef_store HS sz38 rfl rfl rfl) ?_; clear HS; rintro _ w HS
                      replace HH := HS.d3
                      refine ⟨fun _ => HH, ?_⟩
                      refine dx_done (by kernel_rfl) ?_
                      exact J _ _ ⟨_, _, _, HF.sub (by repeat (first | exact ag_nil | refine ag_cons rfl ?_)), HS.swap.rot⟩
                    · refine op_ef (i := 12) HF rfl rfl rfl (ef_alloc HS ze38) ?_; clear HF HS ac; rintro _ w ac ⟨g15, rfl, HS⟩ HF
                      replace HH := HS.d2
                      refine ⟨fun _ => HH, ?_⟩
                      refine dx_one (i := 10) (by kernel_rfl) ?_
                      refine op_ef (i := 10) HF rfl rfl rfl (ef_alloc HS ze38) ?_; clear HF HS ac; rintro _ w ac ⟨g13, rfl, HS⟩ HF
                      replace HH := HS.d3
                      refine ⟨fun _ => HH, ?_⟩
                      refine dx_one (i := 13) (by kernel_rfl) ?_
                      refine op_ef0 (i := 13) HF rfl rfl (ef_store HS sz38 rfl rfl rfl) ?_; clear HS; rintro _ w HS
                      replace HH := HS.d3
                      refine ⟨fun _ => HH, ?_⟩
                      refine dx_one (i := 14) (by kernel_rfl) ?_
                      refine op_ef0 (i := 14) HF rfl rfl (ef_store HS sz38 rfl rfl rfl) ?_; clear HS; rintro _ w HS
                      replace HH := HS.d3
                      refine ⟨fun _ => HH, ?_⟩
                      refine dx_one (i := 15) (by kernel_rfl) ?_
                      refine op_ef0 (i := 15) HF rfl rfl (ef_store HS sz38 rfl rfl rfl) ?_; clear HS; rintro _ w HS
                      replace HH := HS.d3
                      refine ⟨fun _ => HH, ?_⟩
                      refine dx_done (by kernel_rfl) ?_
                      exact J _ _ ⟨_, _, _, HF.sub (by repeat (first | exact ag_nil | refine ag_cons rfl ?_)), HS.rot⟩
                  · refine op_ef (i := 10) HF rfl rfl rfl (ef_alloc HS ze38) ?_; clear HF HS ac; rintro _ w ac ⟨g13, rfl, HS⟩ HF
                    replace HH := HS.d2
                    refine ⟨fun _ => HH, ?_⟩
                    refine dx_two (i := 9) (j := 12) (by kernel_rfl) ?_ ?_
                    · refine op_call (i := 9) HF rfl Tryd.func39 (by kernel_rfl) (by kernel_rfl) (evs_cons rfl evs_nil) (HR3 w HS.kp) rfl rfl ?_; clear HF ac
                      rintro _ w ⟨rfl, k1⟩
                      refine ⟨_, rfl, fun ac HF => ?_⟩
                      replace HH := HH.call k1
                      replace HS := HS.call k1
                      clear k1
                      refine ⟨fun _ => HH, ?_⟩
                      refine dx_one (i := 12) (by kernel_rfl) ?_
                      refine op_ef (i := 12) HF rfl rfl rfl (ef_alloc HS ze38) ?_; clear HF HS ac; rintro _ w ac ⟨g15, rfl, HS⟩ HF
                      replace HH := HS.d3
                      refine ⟨fun _ => HH, ?_⟩
                      refine dx_one (i := 13) (by kernel_rfl) ?_
                      refine op_ef0 (i := 13) HF rfl rfl (ef_store HS sz38 rfl rfl rfl) ?_; clear HS; rintro _ w HS
                      replace HH := HS.d3
                      refine ⟨fun _ => HH, ?_⟩
                      refine dx_one (i := 14) (by kernel_rfl) ?_
                      refine op_ef0 (i := 14) HF rfl rfl (ef_store HS sz38 rfl rfl rfl) ?_; clear HS; rintro _ w HS
                      replace HH := HS.d3
                      refine ⟨fun _ => HH, ?_⟩
                      refine dx_one (i := 15) (by kernel_rfl) ?_
                      refine op_ef0 (i := 15) HF rfl rfl (ef_store HS sz38 rfl rfl rfl) ?_; clear HS; rintro _ w HS
                      replace HH := HS.d3
                      refine ⟨fun _ => HH, ?_⟩
                      refine dx_done (by kernel_rfl) ?_
                      exact J _ _ ⟨_, _, _, HF.sub (by repeat (first | exact ag_nil | refine ag_cons rfl ?_)), HS.swap.rot⟩
                    · refine op_ef (i := 12) HF rfl rfl rfl (ef_alloc HS ze38) ?_; clear HF HS ac; rintro _ w ac ⟨g15, rfl, HS⟩ HF
                      replace HH := HS.d3
                      refine ⟨fun _ => HH, ?_⟩
                      refine dx_one (i := 9) (by kernel_rfl) ?_
                      refine op_call (i := 9) HF rfl Tryd.func39 (by kernel_rfl) (by kernel_rfl) (evs_cons rfl evs_nil) (HR3 w HS.kp) rfl rfl ?_; clear HF ac
                      rintro _ w ⟨rfl, k1⟩
                      refine ⟨_, rfl, fun ac HF => ?_⟩
                      replace HH := HH.call k1
                      replace HS := HS.call k1
                      clear k1
                      refine ⟨fun _ => HH, ?_⟩
                      refine dx_one (i := 13) (by kernel_rfl) ?_
                      refine op_ef0 (i := 13) HF rfl rfl (ef_store HS sz38 rfl rfl rfl) ?_; clear HS; rintro _ w HS
                      replace HH := HS.d3
                      refine ⟨fun _ => HH, ?_⟩
                      refine dx_one (i := 14) (by kernel_rfl) ?_
                      refine op_ef0 (i := 14) HF rfl rfl (ef_store HS sz38 rfl rfl rfl) ?_; clear HS; rintro _ w HS
                      replace HH := HS.d3
                      refine ⟨fun _ => HH, ?_⟩
                      refine dx_one (i := 15) (by kernel_rfl) ?_
                      refine op_ef0 (i := 15) HF rfl rfl (ef_store HS sz38 rfl rfl rfl) ?_; clear HS; rintro _ w HS
                      replace HH := HS.d3
                      refine ⟨fun _ => HH, ?_⟩
                      refine dx_done (by kernel_rfl) ?_
                      exact J _ _ ⟨_, _, _, HF.sub (by repeat (first | exact ag_nil | refine ag_cons rfl ?_)), HS.swap.rot⟩
                  · refine op_ef (i := 12) HF rfl rfl rfl (ef_alloc HS ze38) ?_; clear HF HS ac; rintro _ w ac ⟨g15, rfl, HS⟩ HF
                    replace HH := HS.d2
                    refine ⟨fun _ => HH, ?_⟩
                    refine dx_two (i := 9) (j := 10) (by kernel_rfl) ?_ ?_
                    · refine op_call (i := 9) HF rfl Tryd.func39 (by kernel_rfl) (by kernel_rfl) (evs_cons rfl evs_nil) (HR3 w HS.kp) rfl rfl ?_; clear HF ac
                      rintro _ w ⟨rfl, k1⟩
                      refine ⟨_, rfl, fun ac HF => ?_⟩
                      replace HH := HH.call k1
                      replace HS := HS.call k1
                      clear k1
                      refine ⟨fun _ => HH, ?_⟩
                      refine dx_one (i := 10) (by kernel_rfl) ?_
                      refine op_ef (i := 10) HF rfl rfl rfl (ef_alloc HS ze38) ?_; clear HF HS ac; rintro _ w ac ⟨g13, rfl, HS⟩ HF
                      replace HH := HS.d3
                      refine ⟨fun _ => HH, ?_⟩
                      refine dx_one (i := 13) (by kernel_rfl) ?_
                      refine op_ef0 (i := 13) HF rfl rfl (ef_store HS sz38 rfl rfl rfl) ?_; clear HS; rintro _ w HS
                      replace HH := HS.d3
                      refine ⟨fun _ => HH, ?_⟩
                      refine dx_one (i := 14) (by kernel_rfl) ?_
                      refine op_ef0 (i := 14) HF rfl rfl (ef_store HS sz38 rfl rfl rfl) ?_; clear HS; rintro _ w HS
                      replace HH := HS.d3
                      refine ⟨fun _ => HH, ?_⟩
                      refine dx_one (i := 15) (by kernel_rfl) ?_
                      refine op_ef0 (i := 15) HF rfl rfl (ef_store HS sz38 rfl rfl rfl) ?_; clear HS; rintro _ w HS
                      replace HH := HS.d3
                      refine ⟨fun _ => HH, ?_⟩
                      refine dx_done (by kernel_rfl) ?_
                      exact J _ _ ⟨_, _, _, HF.sub (by repeat (first | exact ag_nil | refine ag_cons rfl ?_)), HS.rot⟩
                    · refine op_ef (i := 10) HF rfl rfl rfl (ef_alloc HS ze38) ?_; clear HF HS ac; rintro _ w ac ⟨g13, rfl, HS⟩ HF
                      replace HH := HS.d3
                      refine ⟨fun _ => HH, ?_⟩
                      refine dx_one (i := 9) (by kernel_rfl) ?_
                      refine op_call (i := 9) HF rfl Tryd.func39 (by kernel_rfl) (by kernel_rfl) (evs_cons rfl evs_nil) (HR3 w HS.kp) rfl rfl ?_; clear HF ac
                      rintro _ w ⟨rfl, k1⟩
                      refine ⟨_, rfl, fun ac HF => ?_⟩
                      replace HH := HH.call k1
                      replace HS := HS.call k1
                      clear k1
                      refine ⟨fun _ => HH, ?_⟩
                      refine dx_one (i := 13) (by kernel_rfl) ?_
                      refine op_ef0 (i := 13) HF rfl rfl (ef_store HS sz38 rfl rfl rfl) ?_; clear HS; rintro _ w HS
                      replace HH := HS.d3
                      refine ⟨fun _ => HH, ?_⟩
                      refine dx_one (i := 14) (by kernel_rfl) ?_
                      refine op_ef0 (i := 14) HF rfl rfl (ef_store HS sz38 rfl rfl rfl) ?_; clear HS; rintro _ w HS
                      replace HH := HS.d3
                      refine ⟨fun _ => HH, ?_⟩
                      refine dx_one (i := 15) (by kernel_rfl) ?_
                      refine op_ef0 (i := 15) HF rfl rfl (ef_store HS sz38 rfl rfl rfl) ?_; clear HS; rintro _ w HS
                      replace HH := HS.d3
                      refine ⟨fun _ => HH, ?_⟩
                      refine dx_done (by kernel_rfl) ?_
                      exact J _ _ ⟨_, _, _, HF.sub (by repeat (first | exact ag_nil | refine ag_cons rfl ?_)), HS.rot⟩
                · refine op_ef (i := 10) HF rfl rfl rfl (ef_alloc HS ze38) ?_; clear HF HS ac; rintro _ w ac ⟨g13, rfl, HS⟩ HF
                  replace HH := HS.d2
                  refine ⟨fun _ => HH, ?_⟩
                  refine dx_two (i := 7) (j := 12) (by kernel_rfl) ?_ ?_
                  · refine op_call (i := 7) HF rfl Tryd.func39 (by kernel_rfl) (by kernel_rfl) (evs_cons rfl evs_nil) (HR2 w HS.kp) rfl rfl ?_; clear HF ac
                    rintro _ w ⟨rfl, k1⟩
                    refine ⟨_, rfl, fun ac HF => ?_⟩
                    replace HH := HH.call k1
                    replace HS := HS.call k1
                    clear k1
                    refine ⟨fun _ => HH, ?_⟩
                    refine dx_two (i := 9) (j := 12) (by kernel_rfl) ?_ ?_
                    · refine op_call (i := 9) HF rfl Tryd.func39 (by kernel_rfl) (by kernel_rfl) (evs_cons rfl evs_nil) (HR3 w HS.kp) rfl rfl ?_; clear HF ac
                      rintro _ w ⟨rfl, k1⟩
                      refine ⟨_, rfl, fun ac HF => ?_⟩
                      replace HH := HH.call k1
                      replace HS := HS.call k1
                      clear k1
                      refine ⟨fun _ => HH, ?_⟩
                      refine dx_one (i := 12) (by kernel_rfl) ?_
                      refine op_ef (i := 12) HF rfl rfl rfl (ef_alloc HS ze38) ?_; clear HF HS ac; rintro _ w ac ⟨g15, rfl, HS⟩ HF
                      replace HH := HS.d3
                      refine ⟨fun _ => HH, ?_⟩
                      refine dx_one (i := 13) (by kernel_rfl) ?_
                      refine op_ef0 (i := 13) HF rfl rfl (ef_store HS sz38 rfl rfl rfl) ?_; clear HS; rintro _ w HS
                      replace HH := HS.d3
                      refine ⟨fun _ => HH, ?_⟩
                      refine dx_one (i := 14) (by kernel_rfl) ?_
                      refine op_ef0 (i := 14) HF rfl rfl (ef_store HS sz38 rfl rfl rfl) ?_; clear HS; rintro _ w HS
                      replace HH := HS.d3
                      refine ⟨fun _ => HH, ?_⟩
                      refine dx_one (i := 15) (by kernel_rfl) ?_
                      refine op_ef0 (i := 15) HF rfl rfl (ef_store HS sz38 rfl rfl rfl) ?_; clear HS; rintro _ w HS
                      replace HH := HS.d3
                      refine ⟨fun _ => HH, ?_⟩
                      refine dx_done (by kernel_rfl) ?_
                      exact J _ _ ⟨_, _, _, HF.sub (by repeat (first | exact ag_nil | refine ag_cons rfl ?_)), HS.swap.rot⟩
                    · refine op_ef (i := 12) HF rfl rfl rfl (ef_alloc HS ze38) ?_; clear HF HS ac; rintro _ w ac ⟨g15, rfl, HS⟩ HF
                      replace HH := HS.d3
                      refine ⟨fun _ => HH, ?_⟩
                      refine dx_one (i := 9) (by kernel_rfl) ?_
                      refine op_call (i := 9) HF rfl Tryd.func39 (by kernel_rfl) (by kernel_rfl) (evs_cons rfl evs_nil) (HR3 w HS.kp) rfl rfl ?_; clear HF ac
                      rintro _ w ⟨rfl, k1⟩
                      refine ⟨_, rfl, fun ac HF => ?_⟩
                      replace HH := HH.call k1
                      replace HS := HS.call k1
                      clear k1
                      refine ⟨fun _ => HH, ?_⟩
                      refine dx_one (i := 13) (by kernel_rfl) ?_
                      refine op_ef0 (i := 13) HF rfl rfl (ef_store HS sz38 rfl rfl rfl) ?_; clear HS; rintro _ w HS
                      replace HH := HS.d3
                      refine ⟨fun _ => HH, ?_⟩
                      refine dx_one (i := 14) (by kernel_rfl) ?_
                      refine op_ef0 (i := 14) HF rfl rfl (ef_store HS sz38 rfl rfl rfl) ?_; clear HS; rintro _ w HS
                      replace HH := HS.d3
                      refine ⟨fun _ => HH, ?_⟩
                      refine dx_one (i := 15) (by kernel_rfl) ?_
                      refine op_ef0 (i := 15) HF rfl rfl (ef_store HS sz38 rfl rfl rfl) ?_; clear HS; rintro _ w HS
                      replace HH := HS.d3
                      refine ⟨fun _ => HH, ?_⟩
                      refine dx_done (by kernel_rfl) ?_
                      exact J _ _ ⟨_, _, _, HF.sub (by repeat (first | exact ag_nil | refine ag_cons rfl ?_)), HS.swap.rot⟩
                  · refine op_ef (i := 12) HF rfl rfl rfl (ef_alloc HS ze38) ?_; clear HF HS ac; rintro _ w ac ⟨g15, rfl, HS⟩ HF
                    replace HH := HS.d3
                    refine ⟨fun _ => HH, ?_⟩
                    refine dx_one (i := 7) (by kernel_rfl) ?_
                    refine op_call (i := 7) HF rfl Tryd.func39 (by kernel_rfl) (by kernel_rfl) (evs_cons rfl evs_nil) (HR2 w HS.kp) rfl rfl ?_; clear HF ac
                    rintro _ w ⟨rfl, k1⟩
                    refine ⟨_, rfl, fun ac HF => ?_⟩
                    replace HH := HH.call k1
                    replace HS := HS.call k1
                    clear k1
                    refine ⟨fun _ => HH, ?_⟩
                    refine dx_one (i := 9) (by kernel_rfl) ?_
                    refine op_call (i := 9) HF rfl Tryd.func39 (by kernel_rfl) (by kernel_rfl) (evs_cons rfl evs_nil) (HR3 w HS.kp) rfl rfl ?_; clear HF ac
                    rintro _ w ⟨rfl, k1⟩
                    refine ⟨_, rfl, fun ac HF => ?_⟩
                    replace HH := HH.call k1
                    replace HS := HS.call k1
                    clear k1
                    refine ⟨fun _ => HH, ?_⟩
                    refine dx_one (i := 13) (by kernel_rfl) ?_
                    refine op_ef0 (i := 13) HF rfl rfl (ef_store HS sz38 rfl rfl rfl) ?_; clear HS; rintro _ w HS
                    replace HH := HS.d3
                    refine ⟨fun _ => HH, ?_⟩
                    refine dx_one (i := 14) (by kernel_rfl) ?_
                    refine op_ef0 (i := 14) HF rfl rfl (ef_store HS sz38 rfl rfl rfl) ?_; clear HS; rintro _ w HS
                    replace HH := HS.d3
                    refine ⟨fun _ => HH, ?_⟩
                    refine dx_one (i := 15) (by kernel_rfl) ?_
                    refine op_ef0 (i := 15) HF rfl rfl (ef_store HS sz38 rfl rfl rfl) ?_; clear HS; rintro _ w HS
                    replace HH := HS.d3
                    refine ⟨fun _ => HH, ?_⟩
                    refine dx_done (by kernel_rfl) ?_
                    exact J _ _ ⟨_, _, _, HF.sub (by repeat (first | exact ag_nil | refine ag_cons rfl ?_)), HS.swap.rot⟩
                · refine op_ef (i := 12) HF rfl rfl rfl (ef_alloc HS ze38) ?_; clear HF HS ac; rintro _ w ac ⟨g15, rfl, HS⟩ HF
                  replace HH := HS.d2
                  refine ⟨fun _ => HH, ?_⟩
                  refine dx_two (i := 7) (j := 10) (by kernel_rfl) ?_ ?_
                  · refine op_call (i := 7) HF rfl Tryd.func39 (by kernel_rfl) (by kernel_rfl) (evs_cons rfl evs_nil) (HR2 w HS.kp) rfl rfl ?_; clear HF ac
                    rintro _ w ⟨rfl, k1⟩
                    refine ⟨_, rfl, fun ac HF => ?_⟩
                    replace HH := HH.call k1
                    replace HS := HS.call k1
                    clear k1
                    refine ⟨fun _ => HH, ?_⟩
                    refine dx_two (i := 9) (j := 10) (by kernel_rfl) ?_ ?_
                    · refine op_call (i := 9) HF rfl Tryd.func39 (by kernel_rfl) (by kernel_rfl) (evs_cons rfl evs_nil) (HR3 w HS.kp) rfl rfl ?_; clear HF ac
                      rintro _ w ⟨rfl, k1⟩
                      refine ⟨_, rfl, fun ac HF => ?_⟩
                      replace HH := HH.call k1
                      replace HS := HS.call k1
                      clear k1
                      refine ⟨fun _ => HH, ?_⟩
                      refine dx_one (i := 10) (by kernel_rfl) ?_
                      refine op_ef (i := 10) HF rfl rfl rfl (ef_alloc HS ze38) ?_; clear HF HS ac; rintro _ w ac ⟨g13, rfl, HS⟩ HF
                      replace HH := HS.d3
                      refine ⟨fun _ => HH, ?_⟩
                      refine dx_one (i := 13) (by kernel_rfl) ?_
                      refine op_ef0 (i := 13) HF rfl rfl (ef_store HS sz38 rfl rfl rfl) ?_; clear HS; rintro _ w HS
                      replace HH := HS.d3
                      refine ⟨fun _ => HH, ?_⟩
                      refine dx_one (i := 14) (by kernel_rfl) ?_
                      refine op_ef0 (i := 14) HF rfl rfl (ef_store HS sz38 rfl rfl rfl) ?_; clear HS; rintro _ w HS
                      replace HH := HS.d3
                      refine ⟨fun _ => HH, ?_⟩
                      refine dx_one (i := 15) (by kernel_rfl) ?_
                      refine op_ef0 (i := 15) HF rfl rfl (ef_store HS sz38 rfl rfl rfl) ?_; clear HS; rintro _ w HS
                      replace HH := HS.d3
                      refine ⟨fun _ => HH, ?_⟩
                      refine dx_done (by kernel_rfl) ?_
                      exact J _ _ ⟨_, _, _, HF.sub (by repeat (first | exact ag_nil | refine ag_cons rfl ?_)), HS.rot⟩
                    · refine op_ef (i := 10) HF rfl rfl rfl (ef_alloc HS ze38) ?_; clear HF HS ac; rintro _ w ac ⟨g13, rfl, HS⟩ HF
                      replace HH := HS.d3
                      refine ⟨fun _ => HH, ?_⟩
                      refine dx_one (i := 9) (by kernel_rfl) ?_
                      refine op_call (i := 9) HF rfl Tryd.func39 (by kernel_rfl) (by kernel_rfl) (evs_cons rfl evs_nil) (HR3 w HS.kp) rfl rfl ?_; clear HF ac
                      rintro _ w ⟨rfl, k1⟩
                      refine ⟨_, rfl, fun ac HF => ?_⟩
                      replace HH := HH.call k1
                      replace HS := HS.call k1
                      clear k1
                      refine ⟨fun _ => HH, ?_⟩
                      refine dx_one (i := 13) (by kernel_rfl) ?_
                      refine op_ef0 (i := 13) HF rfl rfl (ef_store HS sz38 rfl rfl rfl) ?_; clear HS; rintro _ w HS
                      replace HH := HS.d3
                      refine ⟨fun _ => HH, ?_⟩
                      refine dx_one (i := 14) (by kernel_rfl) ?_
                      refine op_ef0 (i := 14) HF rfl rfl (ef_store HS sz38 rfl rfl rfl) ?_; clear HS; rintro _ w HS
                      replace HH := HS.d3
                      refine ⟨fun _ => HH, ?_⟩
                      refine dx_one (i := 15) (by kernel_rfl) ?_
                      refine op_ef0 (i := 15) HF rfl rfl (ef_store HS sz38 rfl rfl rfl) ?_; clear HS; rintro _ w HS
                      replace HH := HS.d3
                      refine ⟨fun _ => HH, ?_⟩
                      refine dx_done (by kernel_rfl) ?_
                      exact J _ _ ⟨_, _, _, HF.sub (by repeat (first | exact ag_nil | refine ag_cons rfl ?_)), HS.rot⟩
                  · refine op_ef (i := 10) HF rfl rfl rfl (ef_alloc HS ze38) ?_; clear HF HS ac; rintro _ w ac ⟨g13, rfl, HS⟩ HF
                    replace HH := HS.d3
                    refine ⟨fun _ => HH, ?_⟩
                    refine dx_one (i := 7) (by kernel_rfl) ?_
                    refine op_call (i := 7) HF rfl Tryd.func39 (by kernel_rfl) (by kernel_rfl) (evs_cons rfl evs_nil) (HR2 w HS.kp) rfl rfl ?_; clear HF ac
                    rintro _ w ⟨rfl, k1⟩
                    refine ⟨_, rfl, fun ac HF => ?_⟩
                    replace HH := HH.call k1
                    replace HS := HS.call k1
                    clear k1
                    refine ⟨fun _ => HH, ?_⟩
                    refine dx_one (i := 9) (by kernel_rfl) ?_
                    refine op_call (i := 9) HF rfl Tryd.func39 (by kernel_rfl) (by kernel_rfl) (evs_cons rfl evs_nil) (HR3 w HS.kp) rfl rfl ?_; clear HF ac
                    rintro _ w ⟨rfl, k1⟩
                    refine ⟨_, rfl, fun ac HF => ?_⟩
                    replace HH := HH.call k1
                    replace HS := HS.call k1
                    clear k1
                    refine ⟨fun _ => HH, ?_⟩
                    refine dx_one (i := 13) (by kernel_rfl) ?_
                    refine op_ef0 (i := 13) HF rfl rfl (ef_store HS sz38 rfl rfl rfl) ?_; clear HS; rintro _ w HS
                    replace HH := HS.d3
                    refine ⟨fun _ => HH, ?_⟩
                    refine dx_one (i := 14) (by kernel_rfl) ?_
                    refine op_ef0 (i := 14) HF rfl rfl (ef_store HS sz38 rfl rfl rfl) ?_; clear HS; rintro _ w HS
                    replace HH := HS.d3
                    refine ⟨fun _ => HH, ?_⟩
                    refine dx_one (i := 15) (by kernel_rfl) ?_
                    refine op_ef0 (i := 15) HF rfl rfl (ef_store HS sz38 rfl rfl rfl) ?_; clear HS; rintro _ w HS
                    replace HH := HS.d3
                    refine ⟨fun _ => HH, ?_⟩
                    refine dx_done (by kernel_rfl) ?_
                    exact J _ _ ⟨_, _, _, HF.sub (by repeat (first | exact ag_nil | refine ag_cons rfl ?_)), HS.rot⟩
              · refine op_ef (i := 10) HF rfl rfl rfl (ef_alloc HS ze38) ?_; clear HF HS ac; rintro _ w ac ⟨g13, rfl, HS⟩ HF
                replace HH := HS.d2
                refine ⟨fun _ => HH, ?_⟩
                refine dx_two (i := 3) (j := 12) (by kernel_rfl) ?_ ?_
                · refine op_call (i := 3) HF rfl Tryd.func39 (by kernel_rfl) (by kernel_rfl) (evs_cons rfl evs_nil) (HR1 w HS.kp) rfl rfl ?_; clear HF ac
                  rintro _ w ⟨rfl, k1⟩
                  refine ⟨_, rfl, fun ac HF => ?_⟩
                  replace HH := HH.call k1
                  replace HS := HS.call k1
                  clear k1
                  refine ⟨fun _ => HH, ?_⟩
                  refine dx_two (i := 7) (j := 12) (by kernel_rfl) ?_ ?_
                  · refine op_call (i := 7) HF rfl Tryd.func39 (by kernel_rfl) (by kernel_rfl) (evs_cons rfl evs_nil) (HR2 w HS.kp) rfl rfl ?_; clear HF ac
                    rintro _ w ⟨rfl, k1⟩
                    refine ⟨_, rfl, fun ac HF => ?_⟩
                    replace HH := HH.call k1
                    replace HS := HS.call k1
                    clear k1
                    refine ⟨fun _ => HH, ?_⟩
                    refine dx_two (i := 9) (j := 12) (by kernel_rfl) ?_ ?_
                    · refine op_call (i := 9) HF rfl Tryd.func39 (by kernel_rfl) (by kernel_rfl) (evs_cons rfl evs_nil) (HR3 w HS.kp) rfl rfl ?_; clear HF ac
                      rintro _ w ⟨rfl, k1⟩
                      refine ⟨_, rfl, fun ac HF => ?_⟩
                      replace HH := HH.call k1
                      replace HS := HS.call k1
                      clear k1
                      refine ⟨fun _ => HH, ?_⟩
                      refine dx_one (i := 12) (by kernel_rfl) ?_
                      refine op_ef (i := 12) HF rfl rfl rfl (ef_alloc HS ze38) ?_; clear HF HS ac; rintro _ w ac ⟨g15, rfl, HS⟩ HF
                      replace HH := HS.d3
                      refine ⟨fun _ => HH, ?_⟩
                      refine dx_one (i := 13) (by kernel_rfl) ?_
                      refine op_ef0 (i := 13) HF rfl rfl (ef_store HS sz38 rfl rfl rfl) ?_; clear HS; rintro _ w HS
                      replace HH := HS.d3
                      refine ⟨fun _ => HH, ?_⟩
                      refine dx_one (i := 14) (by kernel_rfl) ?_
                      refine op_ef0 (i := 14) HF rfl rfl (ef_store HS sz38 rfl rfl rfl) ?_; clear HS; rintro _ w HS
                      replace HH := HS.d3
                      refine ⟨fun _ => HH, ?_⟩
                      refine dx_one (i := 15) (by kernel_rfl) ?_
                      refine op_ef0 (i := 15) HF rfl rfl (ef_store HS sz38 rfl rfl rfl) ?_; clear HS; rintro _ w HS
                      replace HH := HS.d3
                      refine ⟨fun _ => HH, ?_⟩
                      refine dx_done (by kernel_rfl) ?_
                      exact J _ _ ⟨_, _, _, HF.sub (by repeat (first | exact ag_nil | refine ag_cons rfl ?_)), HS.swap.rot⟩
                    · refine op_ef (i := 12) HF rfl rfl rfl (ef_alloc HS ze38) ?_; clear HF HS ac; rintro _ w ac ⟨g15, rfl, HS⟩ HF
                      replace HH := HS.d3
                      refine ⟨fun _ => HH, ?_⟩
                      refine dx_one (i := 9) (by kernel_rfl) ?_
                      refine op_call (i := 9) HF rfl Tryd.func39 (by kernel_rfl) (by kernel_rfl) (evs_cons rfl evs_nil) (HR3 w HS.kp) rfl rfl ?_; clear HF ac
                      rintro _ w ⟨rfl, k1⟩
                      refine ⟨_, rfl, fun ac HF => ?_⟩
                      replace HH := HH.call k1
                      replace HS := HS.call k1
                      clear k1
                      refine ⟨fun _ => HH, ?_⟩
                      refine dx_one (i := 13) (by kernel_rfl) ?_
                      refine op_ef0 (i := 13) HF rfl rfl (ef_store HS sz38 rfl rfl rfl) ?_; clear HS; rintro _ w HS
                      replace HH := HS.d3
                      refine ⟨fun _ => HH, ?_⟩
                      refine dx_one (i := 14) (by kernel_rfl) ?_
                      refine op_ef0 (i := 14) HF rfl rfl (ef_store HS sz38 rfl rfl rfl) ?_; clear HS; rintro _ w HS
                      replace HH := HS.d3
                      refine ⟨fun _ => HH, ?_⟩
                      refine dx_one (i := 15) (by kernel_rfl) ?_
                      refine op_ef0 (i := 15) HF rfl rfl (ef_store HS sz38 rfl rfl rfl) ?_; clear HS; rintro _ w HS
                      replace HH := HS.d3
                      refine ⟨fun _ => HH, ?_⟩
                      refine dx_done (by kernel_rfl) ?_
                      exact J _ _ ⟨_, _, _, HF.sub (by repeat (first | exact ag_nil | refine ag_cons rfl ?_)), HS.swap.rot⟩
                  · refine op_ef (i := 12) HF rfl rfl rfl (ef_alloc HS ze38) ?_; clear HF HS ac; rintro _ w ac ⟨g15, rfl, HS⟩ HF
                    replace HH := HS.d3
                    refine ⟨fun _ => HH, ?_⟩
                    refine dx_one (i := 7) (by kernel_rfl) ?_
                    refine op_call (i := 7) HF rfl Tryd.func39 (by kernel_rfl) (by kernel_rfl) (evs_cons rfl evs_nil) (HR2 w HS.kp) rfl rfl ?_; clear HF ac
                    rintro _ w ⟨rfl, k1⟩
                    refine ⟨_, rfl, fun ac HF => ?_⟩
                    replace HH := HH.call k1
                    replace HS := HS.call k1
                    clear k1
                    refine ⟨fun _ => HH, ?_⟩
                    refine dx_one (i := 9) (by kernel_rfl) ?_
                    refine op_call (i := 9) HF rfl Tryd.func39 (by kernel_rfl) (by kernel_rfl) (evs_cons rfl evs_nil) (HR3 w HS.kp) rfl rfl ?_; clear HF ac
                    rintro _ w ⟨rfl, k1⟩
                    refine ⟨_, rfl, fun ac HF => ?_⟩
                    replace HH := HH.call k1
                    replace HS := HS.call k1
                    clear k1
                    refine ⟨fun _ => HH, ?_⟩
                    refine dx_one (i := 13) (by kernel_rfl) ?_
                    refine op_ef0 (i := 13) HF rfl rfl (ef_store HS sz38 rfl rfl rfl) ?_; clear HS; rintro _ w HS
                    replace HH := HS.d3
                    refine ⟨fun _ => HH, ?_⟩
                    refine dx_one (i := 14) (by kernel_rfl) ?_
                    refine op_ef0 (i := 14) HF rfl rfl (ef_store HS sz38 rfl rfl rfl) ?_; clear HS; rintro _ w HS
                    replace HH := HS.d3
                    refine ⟨fun _ => HH, ?_⟩
                    refine dx_one (i := 15) (by kernel_rfl) ?_
                    refine op_ef0 (i := 15) HF rfl rfl (ef_store HS sz38 rfl rfl rfl) ?_; clear HS; rintro _ w HS
                    replace HH := HS.d3
                    refine ⟨fun _ => HH, ?_⟩
                    refine dx_done (by kernel_rfl) ?_
                    exact J _ _ ⟨_, _, _, HF.sub (by repeat (first | exact ag_nil | refine ag_cons rfl ?_)), HS.swap.rot⟩
                · refine op_ef (i := 12) HF rfl rfl rfl (ef_alloc HS ze38) ?_; clear HF HS ac; rintro _ w ac ⟨g15, rfl, HS⟩ HF
                  replace HH := HS.d3
                  refine ⟨fun _ => HH, ?_⟩
                  refine dx_one (i := 3) (by kernel_rfl) ?_
                  refine op_call (i := 3) HF rfl Tryd.func39 (by kernel_rfl) (by kernel_rfl) (evs_cons rfl evs_nil) (HR1 w HS.kp) rfl rfl ?_; clear HF ac
                  rintro _ w ⟨rfl, k1⟩
                  refine ⟨_, rfl, fun ac HF => ?_⟩
                  replace HH := HH.call k1
                  replace HS := HS.call k1
                  clear k1
                  refine ⟨fun _ => HH, ?_⟩
                  refine dx_one (i := 7) (by kernel_rfl) ?_
                  refine op_call (i := 7) HF rfl Tryd.func39 (by kernel_rfl) (by kernel_rfl) (evs_cons rfl evs_nil) (HR2 w HS.kp) rfl rfl ?_; clear HF ac
                  rintro _ w ⟨rfl, k1⟩
                  refine ⟨_, rfl, fun ac HF => ?_⟩
                  replace HH := HH.call k1
                  replace HS := HS.call k1
                  clear k1
                  refine ⟨fun _ => HH, ?_⟩
                  refine dx_one (i := 9) (by kernel_rfl) ?_
                  refine op_call (i := 9) HF rfl Tryd.func39 (by kernel_rfl) (by kernel_rfl) (evs_cons rfl evs_nil) (HR3 w HS.kp) rfl rfl ?_; clear HF ac
                  rintro _ w ⟨rfl, k1⟩
                  refine ⟨_, rfl, fun ac HF => ?_⟩
                  replace HH := HH.call k1
                  replace HS := HS.call k1
                  clear k1
                  refine ⟨fun _ => HH, ?_⟩
                  refine dx_one (i := 13) (by kernel_rfl) ?_
                  refine op_ef0 (i := 13) HF rfl rfl (ef_store HS sz38 rfl rfl rfl) ?_; clear HS; rintro _ w HS
                  replace HH := HS.d3
                  refine ⟨fun _ => HH, ?_⟩
                  refine dx_one (i := 14) (by kernel_rfl) ?_
                  refine op_ef0 (i := 14) HF rfl rfl (ef_store HS sz38 rfl rfl rfl) ?_; clear HS; rintro _ w HS
                  replace HH := HS.d3
                  refine ⟨fun _ => HH, ?_⟩
                  refine dx_one (i := 15) (by kernel_rfl) ?_
                  refine op_ef0 (i := 15) HF rfl rfl (ef_store HS sz38 rfl rfl rfl) ?_; clear HS; rintro _ w HS
                  replace HH := HS.d3
                  refine ⟨fun _ => HH, ?_⟩
                  refine dx_done (by kernel_rfl) ?_
                  exact J _ _ ⟨_, _, _, HF.sub (by repeat (first | exact ag_nil | refine ag_cons rfl ?_)), HS.swap.rot⟩
              · refine op_ef (i := 12) HF rfl rfl rfl (ef_alloc HS ze38) ?_; clear HF HS ac; rintro _ w ac ⟨g15, rfl, HS⟩ HF
                replace HH := HS.d2
                refine ⟨fun _ => HH, ?_⟩
                refine dx_two (i := 3) (j := 10) (by kernel_rfl) ?_ ?_
                · refine op_call (i := 3) HF rfl Tryd.func39 (by kernel_rfl) (by kernel_rfl) (evs_cons rfl evs_nil) (HR1 w HS.kp) rfl rfl ?_; clear HF ac
                  rintro _ w ⟨rfl, k1⟩
                  refine ⟨_, rfl, fun ac HF => ?_⟩
                  replace HH := HH.call k1
                  replace HS := HS.call k1
                  clear k1
                  refine ⟨fun _ => HH, ?_⟩
                  refine dx_two (i := 7) (j := 10) (by kernel_rfl) ?_ ?_
                  · refine op_call (i := 7) HF rfl Tryd.func39 (by kernel_rfl) (by kernel_rfl) (evs_cons rfl evs_nil) (HR2 w HS.kp) rfl rfl ?_; clear HF ac
                    rintro _ w ⟨rfl, k1⟩
                    refine ⟨_, rfl, fun ac HF => ?_⟩
                    replace HH := HH.call k1
                    replace HS := HS.call k1
                    clear k1
                    refine ⟨fun _ => HH, ?_⟩
                    refine dx_two (i := 9) (j := 10) (by kernel_rfl) ?_ ?_
                    · refine op_call (i := 9) HF rfl Tryd.func39 (by kernel_rfl) (by kernel_rfl) (evs_cons rfl evs_nil) (HR3 w HS.kp) rfl rfl ?_; clear HF ac
                      rintro _ w ⟨rfl, k1⟩
                      refine ⟨_, rfl, fun ac HF => ?_⟩
                      replace HH := HH.call k1
                      replace HS := HS.call k1
                      clear k1
                      refine ⟨fun _ => HH, ?_⟩
                      refine dx_one (i := 10) (by kernel_rfl) ?_
                      refine op_ef (i := 10) HF rfl rfl rfl (ef_alloc HS ze38) ?_; clear HF HS ac; rintro _ w ac ⟨g13, rfl, HS⟩ HF
                      replace HH := HS.d3
                      refine ⟨fun _ => HH, ?_⟩
                      refine dx_one (i := 13) (by kernel_rfl) ?_
                      refine op_ef0 (i := 13) HF rfl rfl (ef_store HS sz38 rfl rfl rfl) ?_; clear HS; rintro _ w HS
                      replace HH := HS.d3
                      refine ⟨fun _ => HH, ?_⟩
                      refine dx_one (i := 14) (by kernel_rfl) ?_
                      refine op_ef0 (i := 14) HF rfl rfl (ef_store HS sz38 rfl rfl rfl) ?_; clear HS; rintro _ w HS
                      replace HH := HS.d3
                      refine ⟨fun _ => HH, ?_⟩
                      refine dx_one (i := 15) (by kernel_rfl) ?_
                      refine op_ef0 (i := 15) HF rfl rfl (ef_store HS sz38 rfl rfl rfl) ?_; clear HS; rintro _ w HS
                      replace HH := HS.d3
                      refine ⟨fun _ => HH, ?_⟩
                      refine dx_done (by kernel_rfl) ?_
                      exact J _ _ ⟨_, _, _, HF.sub (by repeat (first | exact ag_nil | refine ag_cons rfl ?_)), HS.rot⟩
                    · refine op_ef (i := 10) HF rfl rfl rfl (ef_alloc HS ze38) ?_; clear HF HS ac; rintro _ w ac ⟨g13, rfl, HS⟩ HF
                      replace HH := HS.d3
                      refine ⟨fun _ => HH, ?_⟩
                      refine dx_one (i := 9) (by kernel_rfl) ?_
                      refine op_call (i := 9) HF rfl Tryd.func39 (by kernel_rfl) (by kernel_rfl) (evs_cons rfl evs_nil) (HR3 w HS.kp) rfl rfl ?_; clear HF ac
                      rintro _ w ⟨rfl, k1⟩
                      refine ⟨_, rfl, fun ac HF => ?_⟩
                      replace HH := HH.call k1
                      replace HS := HS.call k1
                      clear k1
                      refine ⟨fun _ => HH, ?_⟩
                      refine dx_one (i := 13) (by kernel_rfl) ?_
                      refine op_ef0 (i := 13) HF rfl rfl (ef_store HS sz38 rfl rfl rfl) ?_; clear HS; rintro _ w HS
                      replace HH := HS.d3
                      refine ⟨fun _ => HH, ?_⟩
                      refine dx_one (i := 14) (by kernel_rfl) ?_
                      refine op_ef0 (i := 14) HF rfl rfl (ef_store HS sz38 rfl rfl rfl) ?_; clear HS; rintro _ w HS
                      replace HH := HS.d3
                      refine ⟨fun _ => HH, ?_⟩
                      refine dx_one (i := 15) (by kernel_rfl) ?_
                      refine op_ef0 (i := 15) HF rfl rfl (ef_store HS sz38 rfl rfl rfl) ?_; clear HS; rintro _ w HS
                      replace HH := HS.d3
                      refine ⟨fun _ => HH, ?_⟩
                      refine dx_done (by kernel_rfl) ?_
                      exact J _ _ ⟨_, _, _, HF.sub (by repeat (first | exact ag_nil | refine ag_cons rfl ?_)), HS.rot⟩
                  · refine op_ef (i := 10) HF rfl rfl rfl (ef_alloc HS ze38) ?_; clear HF HS ac; rintro _ w ac ⟨g13, rfl, HS⟩ HF
                    replace HH := HS.d3
                    refine ⟨fun _ => HH, ?_⟩
                    refine dx_one (i := 7) (by kernel_rfl) ?_
                    refine op_call (i := 7) HF rfl Tryd.func39 (by kernel_rfl) (by kernel_rfl) (evs_cons rfl evs_nil) (HR2 w HS.kp) rfl rfl ?_; clear HF ac
                    rintro _ w ⟨rfl, k1⟩
                    refine ⟨_, rfl, fun ac HF => ?_⟩
                    replace HH := HH.call k1
                    replace HS := HS.call k1
                    clear k1
                    refine ⟨fun _ => HH, ?_⟩
                    refine dx_one (i := 9) (by kernel_rfl) ?_
                    refine op_call (i := 9) HF rfl Tryd.func39 (by kernel_rfl) (by kernel_rfl) (evs_cons rfl evs_nil) (HR3 w HS.kp) rfl rfl ?_; clear HF ac
                    rintro _ w ⟨rfl, k1⟩
                    refine ⟨_, rfl, fun ac HF => ?_⟩
                    replace HH := HH.call k1
                    replace HS := HS.call k1
                    clear k1
                    refine ⟨fun _ => HH, ?_⟩
                    refine dx_one (i := 13) (by kernel_rfl) ?_
                    refine op_ef0 (i := 13) HF rfl rfl (ef_store HS sz38 rfl rfl rfl) ?_; clear HS; rintro _ w HS
                    replace HH := HS.d3
                    refine ⟨fun _ => HH, ?_⟩
                    refine dx_one (i := 14) (by kernel_rfl) ?_
                    refine op_ef0 (i := 14) HF rfl rfl (ef_store HS sz38 rfl rfl rfl) ?_; clear HS; rintro _ w HS
                    replace HH := HS.d3
                    refine ⟨fun _ => HH, ?_⟩
                    refine dx_one (i := 15) (by kernel_rfl) ?_
                    refine op_ef0 (i := 15) HF rfl rfl (ef_store HS sz38 rfl rfl rfl) ?_; clear HS; rintro _ w HS
                    replace HH := HS.d3
                    refine ⟨fun _ => HH, ?_⟩
                    refine dx_done (by kernel_rfl) ?_
                    exact J _ _ ⟨_, _, _, HF.sub (by repeat (first | exact ag_nil | refine ag_cons rfl ?_)), HS.rot⟩
                · refine op_ef (i := 10) HF rfl rfl rfl (ef_alloc HS ze38) ?_; clear HF HS ac; rintro _ w ac ⟨g13, rfl, HS⟩ HF
                  replace HH := HS.d3
                  refine ⟨fun _ => HH, ?_⟩
                  refine dx_one (i := 3) (by kernel_rfl) ?_
                  refine op_call (i := 3) HF rfl Tryd.func39 (by kernel_rfl) (by kernel_rfl) (evs_cons rfl evs_nil) (HR1 w HS.kp) rfl rfl ?_; clear HF ac
                  rintro _ w ⟨rfl, k1⟩
                  refine ⟨_, rfl, fun ac HF => ?_⟩
                  replace HH := HH.call k1
                  replace HS := HS.call k1
                  clear k1
                  refine ⟨fun _ => HH, ?_⟩
                  refine dx_one (i := 7) (by kernel_rfl) ?_
                  refine op_call (i := 7) HF rfl Tryd.func39 (by kernel_rfl) (by kernel_rfl) (evs_cons rfl evs_nil) (HR2 w HS.kp) rfl rfl ?_; clear HF ac
                  rintro _ w ⟨rfl, k1⟩
                  refine ⟨_, rfl, fun ac HF => ?_⟩
                  replace HH := HH.call k1
                  replace HS := HS.call k1
                  clear k1
                  refine ⟨fun _ => HH, ?_⟩
                  refine dx_one (i := 9) (by kernel_rfl) ?_
                  refine op_call (i := 9) HF rfl Tryd.func39 (by kernel_rfl) (by kernel_rfl) (evs_cons rfl evs_nil) (HR3 w HS.kp) rfl rfl ?_; clear HF ac
                  rintro _ w ⟨rfl, k1⟩
                  refine ⟨_, rfl, fun ac HF => ?_⟩
                  replace HH := HH.call k1
                  replace HS := HS.call k1
                  clear k1
                  refine ⟨fun _ => HH, ?_⟩
                  refine dx_one (i := 13) (by kernel_rfl) ?_
                  refine op_ef0 (i := 13) HF rfl rfl (ef_store HS sz38 rfl rfl rfl) ?_; clear HS; rintro _ w HS
                  replace HH := HS.d3
                  refine ⟨fun _ => HH, ?_⟩
                  refine dx_one (i := 14) (by kernel_rfl) ?_
                  refine op_ef0 (i := 14) HF rfl rfl (ef_store HS sz38 rfl rfl rfl) ?_; clear HS; rintro _ w HS
                  replace HH := HS.d3
                  refine ⟨fun _ => HH, ?_⟩
                  refine dx_one (i := 15) (by kernel_rfl) ?_
                  refine op_ef0 (i := 15) HF rfl rfl (ef_store HS sz38 rfl rfl rfl) ?_; clear HS; rintro _ w HS
                  replace HH := HS.d3
                  refine ⟨fun _ => HH, ?_⟩
                  refine dx_done (by kernel_rfl) ?_
                  exact J _ _ ⟨_, _, _, HF.sub (by repeat (first | exact ag_nil | refine ag_cons rfl ?_)), HS.rot⟩
            · refine op_ef (i := 12) HF rfl rfl rfl (ef_alloc HS ze38) ?_; clear HF HS ac; rintro _ w ac ⟨g15, rfl, HS⟩ HF
              replace HH := HS.d1
              refine ⟨fun _ => HH, ?_⟩
              refine dx_three (i := 3) (j := 10) (j2 := 11) (by kernel_rfl) ?_ ?_ ?_
              · refine op_call (i := 3) HF rfl Tryd.func39 (by kernel_rfl) (by kernel_rfl) (evs_cons rfl evs_nil) (HR1 w HS.kp) rfl rfl ?_; clear HF ac
                rintro _ w ⟨rfl, k1⟩
                refine ⟨_, rfl, fun ac HF => ?_⟩
                replace HH := HH.call k1
                replace HS := HS.call k1
                clear k1
                refine ⟨fun _ => HH, ?_⟩
                refine dx_three (i := 7) (j := 10) (j2 := 11) (by kernel_rfl) ?_ ?_ ?_
                · refine op_call (i := 7) HF rfl Tryd.func39 (by kernel_rfl) (by kernel_rfl) (evs_cons rfl evs_nil) (HR2 w HS.kp) rfl rfl ?_; clear HF ac
                  rintro _ w ⟨rfl, k1⟩
                  refine ⟨_, rfl, fun ac HF => ?_⟩
                  replace HH := HH.call k1
                  replace HS := HS.call k1
                  clear k1
                  refine ⟨fun _ => HH, ?_⟩
                  refine dx_three (i := 9) (j := 10) (j2 := 11) (by kernel_rfl) ?_ ?_ ?_
                  · refine op_call (i := 9) HF rfl Tryd.func39 (by kernel_rfl) (by kernel_rfl) (evs_cons rfl evs_nil) (HR3 w HS.kp) rfl rfl ?_; clear HF ac
                    rintro _ w ⟨rfl, k1⟩
                    refine ⟨_, rfl, fun ac HF => ?_⟩
                    replace HH := HH.call k1
                    replace HS := HS.call k1
                    clear k1
                    refine ⟨fun _ => HH, ?_⟩
                    refine dx_two (i := 10) (j := 11) (by kernel_rfl) ?_ ?_
                    · refine op_ef (i := 10) HF rfl rfl rfl (ef_alloc HS ze38) ?_; clear HF HS ac; rintro _ w ac ⟨g13, rfl, HS⟩ HF
                      replace HH := HS.d2
                      refine ⟨fun _ => HH, ?_⟩
                      refine dx_one (i := 11) (by kernel_rfl) ?_
                      refine op_ef (i := 11) HF rfl rfl rfl (ef_alloc HS ze38) ?_; clear HF HS ac; rintro _ w ac ⟨g14, rfl, HS⟩ HF
                      replace HH := HS.d3
                      refine ⟨fun _ => HH, ?_⟩
                      refine dx_one (i := 13) (by kernel_rfl) ?_
                      refine op_ef0 (i := 13) HF rfl rfl (ef_store HS sz38 rfl rfl rfl) ?_; clear HS; rintro _ w HS
                      replace HH := HS.d3
                      refine ⟨fun _ => HH, ?_⟩
                      refine dx_one (i := 14) (by kernel_rfl) ?_
                      refine op_ef0 (i := 14) HF rfl rfl (ef_store HS sz38 rfl rfl rfl) ?_; clear HS; rintro _ w HS
                      replace HH := HS.d3
                      refine ⟨fun _ => HH, ?_⟩
                      refine dx_one (i := 15) (by kernel_rfl) ?_
                      refine op_ef0 (i := 15) HF rfl rfl (ef_store HS sz38 rfl rfl rfl) ?_; clear HS; rintro _ w HS
                      replace HH := HS.d3
                      refine ⟨fun _ => HH, ?_⟩
                      refine dx_done (by kernel_rfl) ?_
                      exact J _ _ ⟨_, _, _, HF.sub (by repeat (first | exact ag_nil | refine ag_cons rfl ?_)), HS.rot.rot⟩
                    · refine op_ef (i := 11) HF rfl rfl rfl (ef_alloc HS ze38) ?_; clear HF HS ac; rintro _ w ac ⟨g14, rfl, HS⟩ HF
                      replace HH := HS.d2
                      refine ⟨fun _ => HH, ?_⟩
                      refine dx_one (i := 10) (by kernel_rfl) ?_
                      refine op_ef (i := 10) HF rfl rfl rfl (ef_alloc HS ze38) ?_; clear HF HS ac; rintro _ w ac ⟨g13, rfl, HS⟩ HF
                      replace HH := HS.d3
                      refine ⟨fun _ => HH, ?_⟩
                      refine dx_one (i := 13) (by kernel_rfl) ?_
                      refine op_ef0 (i := 13) HF rfl rfl (ef_store HS sz38 rfl rfl rfl) ?_; clear HS; rintro _ w HS
                      replace HH := HS.d3
                      refine ⟨fun _ => HH, ?_⟩
                      refine dx_one (i := 14) (by kernel_rfl) ?_
                      refine op_ef0 (i := 14) HF rfl rfl (ef_store HS sz38 rfl rfl rfl) ?_; clear HS; rintro _ w HS
                      replace HH := HS.d3
                      refine ⟨fun _ => HH, ?_⟩
                      refine dx_one (i := 15) (by kernel_rfl) ?_
                      refine op_ef0 (i := 15) HF rfl rfl (ef_store HS sz38 rfl rfl rfl) ?_; clear HS; rintro _ w HS
                      replace HH := HS.d3
                      refine ⟨fun _ => HH, ?_⟩
                      refine dx_done (by kernel_rfl) ?_
                      exact J _ _ ⟨_, _, _, HF.sub (by repeat (first | exact ag_nil | refine ag_cons rfl ?_)), HS.rot.swap⟩
                  · refine op_ef (i := 10) HF rfl rfl rfl (ef_alloc HS ze38) ?_; clear HF HS ac; rintro _ w ac ⟨g13, rfl, HS⟩ HF
                    replace HH := HS.d2
                    refine ⟨fun _ => HH, ?_⟩
                    refine dx_two (i := 9) (j := 11) (by kernel_rfl) ?_ ?_
                    · refine op_call (i := 9) HF rfl Tryd.func39 (by kernel_rfl) (by kernel_rfl) (evs_cons rfl evs_nil) (HR3 w HS.kp) rfl rfl ?_; clear HF ac
                      rintro _ w ⟨rfl, k1⟩
                      refine ⟨_, rfl, fun ac HF => ?_⟩
                      replace HH := HH.call k1
                      replace HS := HS.call k1
                      clear k1
                      refine ⟨fun _ => HH, ?_⟩
                      refine dx_one (i := 11) (by kernel_rfl) ?_
                      refine op_ef (i := 11) HF rfl rfl rfl (ef_alloc HS ze38) ?_; clear HF HS ac; rintro _ w ac ⟨g14, rfl, HS⟩ HF
                      replace HH := HS.d3
                      refine ⟨fun _ => HH, ?_⟩
                      refine dx_one (i := 13) (by kernel_rfl) ?_
                      refine op_ef0 (i := 13) HF rfl rfl (ef_store HS sz38 rfl rfl rfl) ?_; clear HS; rintro _ w HS
                      replace HH := HS.d3
                      refine ⟨fun _ => HH, ?_⟩
                      refine dx_one (i := 14) (by kernel_rfl) ?_
                      refine op_ef0 (i := 14) HF rfl rfl (ef_store HS sz38 rfl rfl rfl) ?_; clear HS; rintro _ w HS
                      replace HH := HS.d3
                      refine ⟨fun _ => HH, ?_⟩
                      refine dx_one (i := 15) (by kernel_rfl) ?_
                      refine op_ef0 (i := 15) HF rfl rfl (ef_store HS sz38 rfl rfl rfl) ?_; clear HS; rintro _ w HS
                      replace HH := HS.d3
                      refine ⟨fun _ => HH, ?_⟩
                      refine dx_done (by kernel_rfl) ?_
                      exact J _ _ ⟨_, _, _, HF.sub (by repeat (first | exact ag_nil | refine ag_cons rfl ?_)), HS.rot.rot⟩
                    · refine op_ef (i := 11) HF rfl rfl rfl (ef_alloc HS ze38) ?_; clear HF HS ac; rintro _ w ac ⟨g14, rfl, HS⟩ HF
                      replace HH := HS.d3
                      refine ⟨fun _ => HH, ?_⟩
                      refine dx_one (i := 9) (by kernel_rfl) ?_
                      refine op_call (i := 9) HF rfl Tryd.func39 (by kernel_rfl) (by kernel_rfl) (evs_cons rfl evs_nil) (HR3 w HS.kp) rfl rfl ?_; clear HF ac
                      rintro _ w ⟨rfl, k1⟩
                      refine ⟨_, rfl, fun ac HF => ?_⟩
                      replace HH := HH.call k1
                      replace HS := HS.call k1
                      clear k1
                      refine ⟨fun _ => HH, ?_⟩
                      refine dx_one (i := 13) (by kernel_rfl) ?_
                      refine op_ef0 (i := 13) HF rfl rfl (ef_store HS sz38 rfl rfl rfl) ?_; clear HS; rintro _ w HS
                      replace HH := HS.d3
                      refine ⟨fun _ => HH, ?_⟩
                      refine dx_one (i := 14) (by kernel_rfl) ?_
                      refine op_ef0 (i := 14) HF rfl rfl (ef_store HS sz38 rfl rfl rfl) ?_; clear HS; rintro _ w HS
                      replace HH := HS.d3
                      refine ⟨fun _ => HH, ?_⟩
                      refine dx_one (i := 15) (by kernel_rfl) ?_
                      refine op_ef0 (i := 15) HF rfl rfl (ef_store HS sz38 rfl rfl rfl) ?_; clear HS; rintro _ w HS
                      replace HH := HS.d3
                      refine ⟨fun _ => HH, ?_⟩
                      refine dx_done (by kernel_rfl) ?_
                      exact J _ _ ⟨_, _, _, HF.sub (by repeat (first | exact ag_nil | refine ag_cons rfl ?_)), HS.rot.rot⟩
                  · refine op_ef (i := 11) HF rfl rfl rfl (ef_alloc HS ze38) ?_; clear HF HS ac; rintro _ w ac ⟨g14, rfl, HS⟩ HF
                    replace HH := HS.d2
                    refine ⟨fun _ => HH, ?_⟩
                    refine dx_two (i := 9) (j := 10) (by kernel_rfl) ?_ ?_
                    · refine op_call (i := 9) HF rfl Tryd.func39 (by kernel_rfl) (by kernel_rfl) (evs_cons rfl evs_nil) (HR3 w HS.kp) rfl rfl ?_; clear HF ac
                      rintro _ w ⟨rfl, k1⟩
                      refine ⟨_, rfl, fun ac HF => ?_⟩
                      replace HH := HH.call k1
                      replace HS := HS.call k1
                      clear k1
                      refine ⟨fun _ => HH, ?_⟩
                      refine dx_one (i := 10) (by kernel_rfl) ?_
                      refine op_ef (i := 10) HF rfl rfl rfl (ef_alloc HS ze38) ?_; clear HF HS ac; rintro _ w ac ⟨g13, rfl, HS⟩ HF
                      replace HH := HS.d3
                      refine ⟨fun _ => HH, ?_⟩
                      refine dx_one (i := 13) (by kernel_rfl) ?_
                      refine op_ef0 (i := 13) HF rfl rfl (ef_store HS sz38 rfl rfl rfl) ?_; clear HS; rintro _ w HS
                      replace HH := HS.d3
                      refine ⟨fun _ => HH, ?_⟩
                      refine dx_one (i := 14) (by kernel_rfl) ?_
                      refine op_ef0 (i := 14) HF rfl rfl (ef_store HS sz38 rfl rfl rfl) ?_; clear HS; rintro _ w HS
                      replace HH := HS.d3
                      refine ⟨fun _ => HH, ?_⟩
                      refine dx_one (i := 15) (by kernel_rfl) ?_
                      refine op_ef0 (i := 15) HF rfl rfl (ef_store HS sz38 rfl rfl rfl) ?_; clear HS; rintro _ w HS
                      replace HH := HS.d3
                      refine ⟨fun _ => HH, ?_⟩
                      refine dx_done (by kernel_rfl) ?_
                      exact J _ _ ⟨_, _, _, HF.sub (by repeat (first | exact ag_nil | refine ag_cons rfl ?_)), HS.rot.swap⟩
                    · refine op_ef (i := 10) HF rfl rfl rfl (ef_alloc HS ze38) ?_; clear HF HS ac; rintro _ w ac ⟨g13, rfl, HS⟩ HF
                      replace HH := HS.d3
                      refine ⟨fun _ => HH, ?_⟩
                      refine dx_one (i := 9) (by kernel_rfl) ?_
                      refine op_call (i := 9) HF rfl Tryd.func39 (by kernel_rfl) (by kernel_rfl) (evs_cons rfl evs_nil) (HR3 w HS.kp) rfl rfl ?_; clear HF ac
                      rintro _ w ⟨rfl, k1⟩
                      refine ⟨_, rfl, fun ac HF => ?_⟩
                      replace HH := HH.call k1
                      replace HS := HS.call k1
                      clear k1
                      refine ⟨fun _ => HH, ?_⟩
                      refine dx_one (i := 13) (by kernel_rfl) ?_
                      refine op_ef0 (i := 13) HF rfl rfl (ef_store HS sz38 rfl rfl rfl) ?_; clear HS; rintro _ w HS
                      replace HH := HS.d3
                      refine ⟨fun _ => HH, ?_⟩
                      refine dx_one (i := 14) (by kernel_rfl) ?_
                      refine op_ef0 (i := 14) HF rfl rfl (ef_store HS sz38 rfl rfl rfl) ?_; clear HS; rintro _ w HS
                      replace HH := HS.d3
                      refine ⟨fun _ => HH, ?_⟩
                      refine dx_one (i := 15) (by kernel_rfl) ?_
                      refine op_ef0 (i := 15) HF rfl rfl (ef_store HS sz38 rfl rfl rfl) ?_; clear HS; rintro _ w HS
                      replace HH := HS.d3
                      refine ⟨fun _ => HH, ?_⟩
                      refine dx_done (by kernel_rfl) ?_
                      exact J _ _ ⟨_, _, _, HF.sub (by repeat (first | exact ag_nil | refine ag_cons rfl ?_)), HS.rot.swap⟩
                · refine op_ef (i := 10) HF rfl rfl rfl (ef_alloc HS ze38) ?_; clear HF HS ac; rintro _ w ac ⟨g13, rfl, HS⟩ HF
                  replace HH := HS.d2
                  refine ⟨fun _ => HH, ?_⟩
                  refine dx_two (i := 7) (j := 11) (by kernel_rfl) ?_ ?_
                  · refine op_call (i := 7) HF rfl Tryd.func39 (by kernel_rfl) (by kernel_rfl) (evs_cons rfl evs_nil) (HR2 w HS.kp) rfl rfl ?_; clear HF ac
                    rintro _ w ⟨rfl, k1⟩
                    refine ⟨_, rfl, fun ac HF => ?_⟩
                    replace HH := HH.call k1
                    replace HS := HS.call k1
                    clear k1
                    refine ⟨fun _ => HH, ?_⟩
                    refine dx_two (i := 9) (j := 11) (by kernel_rfl) ?_ ?_
                    · refine op_call (i := 9) HF rfl Tryd.func39 (by kernel_rfl) (by kernel_rfl) (evs_cons rfl evs_nil) (HR3 w HS.kp) rfl rfl ?_; clear HF ac
                      rintro _ w ⟨rfl, k1⟩
                      refine ⟨_, rfl, fun ac HF => ?_⟩
                      replace HH := HH.call k1
                      replace HS := HS.call k1
                      clear k1
                      refine ⟨fun _ => HH, ?_⟩
                      refine dx_one (i := 11) (by kernel_rfl) ?_
                      refine op_ef (i := 11) HF rfl rfl rfl (ef_alloc HS ze38) ?_; clear HF HS ac; rintro _ w ac ⟨g14, rfl, HS⟩ HF
                      replace HH := HS.d3
                      refine ⟨fun _ => HH, ?_⟩
                      refine dx_one (i := 13) (by kernel_rfl) ?_
                      refine op_ef0 (i := 13) HF rfl rfl (ef_store HS sz38 rfl rfl rfl) ?_; clear HS; rintro _ w HS
                      replace HH := HS.d3
                      refine ⟨fun _ => HH, ?_⟩
                      refine dx_one (i := 14) (by kernel_rfl) ?_
                      refine op_ef0 (i := 14) HF rfl rfl (ef_store HS sz38 rfl rfl rfl) ?_; clear HS; rintro _ w HS
                      replace HH := HS.d3
                      refine ⟨fun _ => HH, ?_⟩
                      refine dx_one (i := 15) (by kernel_rfl) ?_
                      refine op_ef0 (i := 15) HF rfl rfl (ef_store HS sz38 rfl rfl rfl) ?_; clear HS; rintro _ w HS
                      replace HH := HS.d3
                      refine ⟨fun _ => HH, ?_⟩
                      refine dx_done (by kernel_rfl) ?_
                      exact J _ _ ⟨_, _, _, HF.sub (by repeat (first | exact ag_nil | refine ag_cons rfl ?_)), HS.rot.rot⟩
                    · refine op_ef (i := 11) HF rfl rfl rfl (ef_alloc HS ze38) ?_; clear HF HS ac; rintro _ w ac ⟨g14, rfl, HS⟩ HF
                      replace HH := HS.d3
                      refine ⟨fun _ => HH, ?_⟩
                      refine dx_one (i := 9) (by kernel_rfl) ?_
                      refine op_call (i := 9) HF rfl Tryd.func39 (by kernel_rfl) (by kernel_rfl) (evs_cons rfl evs_nil) (HR3 w HS.kp) rfl rfl ?_; clear HF ac
                      rintro _ w ⟨rfl, k1⟩
                      refine ⟨_, rfl, fun ac HF => ?_⟩
                      replace HH := HH.call k1
                      replace HS := HS.call k1
                      clear k1
                      refine ⟨fun _ => HH, ?_⟩
                      refine dx_one (i := 13) (by kernel_rfl) ?_
                      refine op_ef0 (i := 13) HF rfl rfl (ef_store HS sz38 rfl rfl rfl) ?_; clear HS; rintro _ w HS
                      replace HH := HS.d3
                      refine ⟨fun _ => HH, ?_⟩
                      refine dx_one (i := 14) (by kernel_rfl) ?_
                      refine op_ef0 (i := 14) HF rfl rfl (ef_store HS sz38 rfl rfl rfl) ?_; clear HS; rintro _ w HS
                      replace HH := HS.d3
                      refine ⟨fun _ => HH, ?_⟩
                      refine dx_one (i := 15) (by kernel_rfl) ?_
                      refine op_ef0 (i := 15) HF rfl rfl (ef_store HS sz38 rfl rfl rfl) ?_; clear HS; rintro _ w HS
                      replace HH := HS.d3
                      refine ⟨fun _ => HH, ?_⟩
                      refine dx_done (by kernel_rfl) ?_
                      exact J _ _ ⟨_, _, _, HF.sub (by repeat (first | exact ag_nil | refine ag_cons rfl ?_)), HS.rot.rot⟩
                  · refine op_ef (i := 11) HF rfl rfl rfl (ef_alloc HS ze38) ?_; clear HF HS ac; rintro _ w ac ⟨g14, rfl, HS⟩ HF
                    replace HH := HS.d3
                    refine ⟨fun _ => HH, ?_⟩
                    refine dx_one (i := 7) (by kernel_rfl) ?_
                    refine op_call (i := 7) HF rfl Tryd.func39 (by kernel_rfl) (by kernel_rfl) (evs_cons rfl evs_nil) (HR2 w HS.kp) rfl rfl ?_; clear HF ac
                    rintro _ w ⟨rfl, k1⟩
                    refine ⟨_, rfl, fun ac HF => ?_⟩
                    replace HH := HH.call k1
                    replace HS := HS.call k1
                    clear k1
                    refine ⟨fun _ => HH, ?_⟩
                    refine dx_one (i := 9) (by kernel_rfl) ?_
                    refine op_call (i := 9) HF rfl Tryd.func39 (by kernel_rfl) (by kernel_rfl) (evs_cons rfl evs_nil) (HR3 w HS.kp) rfl rfl ?_; clear HF ac
                    rintro _ w ⟨rfl, k1⟩
                    refine ⟨_, rfl, fun ac HF => ?_⟩
                    replace HH := HH.call k1
                    replace HS := HS.call k1
                    clear k1
                    refine ⟨fun _ => HH, ?_⟩
                    refine dx_one (i := 13) (by kernel_rfl) ?_
                    refine op_ef0 (i := 13) HF rfl rfl (ef_store HS sz38 rfl rfl rfl) ?_; clear HS; rintro _ w HS
                    replace HH := HS.d3
                    refine ⟨fun _ => HH, ?_⟩
                    refine dx_one (i := 14) (by kernel_rfl) ?_
                    refine op_ef0 (i := 14) HF rfl rfl (ef_store HS sz38 rfl rfl rfl) ?_; clear HS; rintro _ w HS
                    replace HH := HS.d3
                    refine ⟨fun _ => HH, ?_⟩
                    refine dx_one (i := 15) (by kernel_rfl) ?_
                    refine op_ef0 (i := 15) HF rfl rfl (ef_store HS sz38 rfl rfl rfl) ?_; clear HS; rintro _ w HS
                    replace HH := HS.d3
                    refine ⟨fun _ => HH, ?_⟩
                    refine dx_done (by kernel_rfl) ?_
                    exact J _ _ ⟨_, _, _, HF.sub (by repeat (first | exact ag_nil | refine ag_cons rfl ?_)), HS.rot.rot⟩
                · refine op_ef (i := 11) HF rfl rfl rfl (ef_alloc HS ze38) ?_; clear HF HS ac; rintro _ w ac ⟨g14, rfl, HS⟩ HF
                  replace HH := HS.d2
                  refine ⟨fun _ => HH, ?_⟩
                  refine dx_two (i := 7) (j := 10) (by kernel_rfl) ?_ ?_
                  · refine op_call (i := 7) HF rfl Tryd.func39 (by kernel_rfl) (by kernel_rfl) (evs_cons rfl evs_nil) (HR2 w HS.kp) rfl rfl ?_; clear HF ac
                    rintro _ w ⟨rfl, k1⟩
                    refine ⟨_, rfl, fun ac HF => ?_⟩
                    replace HH := HH.call k1
                    replace HS := HS.call k1
                    clear k1
                    refine ⟨fun _ => HH, ?_⟩
                    refine dx_two (i := 9) (j := 10) (by kernel_rfl) ?_ ?_
                    · refine op_call (i := 9) HF rfl Tryd.func39 (by kernel_rfl) (by kernel_rfl) (evs_cons rfl evs_nil) (HR3 w HS.kp) rfl rfl ?_; clear HF ac
                      rintro _ w ⟨rfl, k1⟩
                      refine ⟨_, rfl, fun ac HF => ?_⟩
                      replace HH := HH.call k1
                      replace HS := HS.call k1
                      clear k1
                      refine ⟨fun _ => HH, ?_⟩
                      refine dx_one (i := 10) (by kernel_rfl) ?_
                      refine op_ef (i := 10) HF rfl rfl rfl (ef_alloc HS ze38) ?_; clear HF HS ac; rintro _ w ac ⟨g13, rfl, HS⟩ HF
                      replace HH := HS.d3
                      refine ⟨fun _ => HH, ?_⟩
                      refine dx_one (i := 13) (by kernel_rfl) ?_
                      refine op_ef0 (i := 13) HF rfl rfl (ef_store HS sz38 rfl rfl rfl) ?_; clear HS; rintro _ w HS
                      replace HH := HS.d3
                      refine ⟨fun _ => HH, ?_⟩
                      refine dx_one (i := 14) (by kernel_rfl) ?_
                      refine op_ef0 (i := 14) HF rfl rfl (ef_store HS sz38 rfl rfl rfl) ?_; clear HS; rintro _ w HS
                      replace HH := HS.d3
                      refine ⟨fun _ => HH, ?_⟩
                      refine dx_one (i := 15) (by kernel_rfl) ?_
                      refine op_ef0 (i := 15) HF rfl rfl (ef_store HS sz38 rfl rfl rfl) ?_; clear HS; rintro _ w HS
                      replace HH := HS.d3
                      refine ⟨fun _ => HH, ?_⟩
                      refine dx_done (by kernel_rfl) ?_
                      exact J _ _ ⟨_, _, _, HF.sub (by repeat (first | exact ag_nil | refine ag_cons rfl ?_)), HS.rot.swap⟩
                    · refine op_ef (i := 10) HF rfl rfl rfl (ef_alloc HS ze38) ?_; clear HF HS ac; rintro _ w ac ⟨g13, rfl, HS⟩ HF
                      replace HH := HS.d3
                      refine ⟨fun _ => HH, ?_⟩
                      refine dx_one (i := 9) (by kernel_rfl) ?_
                      refine op_call (i := 9) HF rfl Tryd.func39 (by kernel_rfl) (by kernel_rfl) (evs_cons rfl evs_nil) (HR3 w HS.kp) rfl rfl ?_; clear HF ac
                      rintro _ w ⟨rfl, k1⟩
                      refine ⟨_, rfl, fun ac HF => ?_⟩
                      replace HH := HH.call k1
                      replace HS := HS.call k1
                      clear k1
                      refine ⟨fun _ => HH, ?_⟩
                      refine dx_one (i := 13) (by kernel_rfl) ?_
                      refine op_ef0 (i := 13) HF rfl rfl (ef_store HS sz38 rfl rfl rfl) ?_; clear HS; rintro _ w HS
                      replace HH := HS.d3
                      refine ⟨fun _ => HH, ?_⟩
                      refine dx_one (i := 14) (by kernel_rfl) ?_
                      refine op_ef0 (i := 14) HF rfl rfl (ef_store HS sz38 rfl rfl rfl) ?_; clear HS; rintro _ w HS
                      replace HH := HS.d3
                      refine ⟨fun _ => HH, ?_⟩
                      refine dx_one (i := 15) (by kernel_rfl) ?_
                      refine op_ef0 (i := 15) HF rfl rfl (ef_store HS sz38 rfl rfl rfl) ?_; clear HS; rintro _ w HS
                      replace HH := HS.d3
                      refine ⟨fun _ => HH, ?_⟩
                      refine dx_done (by kernel_rfl) ?_
                      exact J _ _ ⟨_, _, _, HF.sub (by repeat (first | exact ag_nil | refine ag_cons rfl ?_)), HS.rot.swap⟩
                  · refine op_ef (i := 10) HF rfl rfl rfl (ef_alloc HS ze38) ?_; clear HF HS ac; rintro _ w ac ⟨g13, rfl, HS⟩ HF
                    replace HH := HS.d3
                    refine ⟨fun _ => HH, ?_⟩
                    refine dx_one (i := 7) (by kernel_rfl) ?_
                    refine op_call (i := 7) HF rfl Tryd.func39 (by kernel_rfl) (by kernel_rfl) (evs_cons rfl evs_nil) (HR2 w HS.kp) rfl rfl ?_; clear HF ac
                    rintro _ w ⟨rfl, k1⟩
                    refine ⟨_, rfl, fun ac HF => ?_⟩
                    replace HH := HH.call k1
                    replace HS := HS.call k1
                    clear k1
                    refine ⟨fun _ => HH, ?_⟩
                    refine dx_one (i := 9) (by kernel_rfl) ?_
                    refine op_call (i := 9) HF rfl Tryd.func39 (by kernel_rfl) (by kernel_rfl) (evs_cons rfl evs_nil) (HR3 w HS.kp) rfl rfl ?_; clear HF ac
                    rintro _ w ⟨rfl, k1⟩
                    refine ⟨_, rfl, fun ac HF => ?_⟩
                    replace HH := HH.call k1
                    replace HS := HS.call k1
                    clear k1
                    refine ⟨fun _ => HH, ?_⟩
                    refine dx_one (i := 13) (by kernel_rfl) ?_
                    refine op_ef0 (i := 13) HF rfl rfl (ef_store HS sz38 rfl rfl rfl) ?_; clear HS; rintro _ w HS
                    replace HH := HS.d3
                    refine ⟨fun _ => HH, ?_⟩
                    refine dx_one (i := 14) (by kernel_rfl) ?_
                    refine op_ef0 (i := 14) HF rfl rfl (ef_store HS sz38 rfl rfl rfl) ?_; clear HS; rintro _ w HS
                    replace HH := HS.d3
                    refine ⟨fun _ => HH, ?_⟩
                    refine dx_one (i := 15) (by kernel_rfl) ?_
                    refine op_ef0 (i := 15) HF rfl rfl (ef_store HS sz38 rfl rfl rfl) ?_; clear HS; rintro _ w HS
                    replace HH := HS.d3
                    refine ⟨fun _ => HH, ?_⟩
                    refine dx_done (by kernel_rfl) ?_
                    exact J _ _ ⟨_, _, _, HF.sub (by repeat (first | exact ag_nil | refine ag_cons rfl ?_)), HS.rot.swap⟩
              · refine op_ef (i := 10) HF rfl rfl rfl (ef_alloc HS ze38) ?_; clear HF HS ac; rintro _ w ac ⟨g13, rfl, HS⟩ HF
                replace HH := HS.d2
                refine ⟨fun _ => HH, ?_⟩
                refine dx_two (i := 3) (j := 11) (by kernel_rfl) ?_ ?_
                · refine op_call (i := 3) HF rfl Tryd.func39 (by kernel_rfl) (by kernel_rfl) (evs_cons rfl evs_nil) (HR1 w HS.kp) rfl rfl ?_; clear HF ac
                  rintro _ w ⟨rfl, k1⟩
                  refine ⟨_, rfl, fun ac HF => ?_⟩
                  replace HH := HH.call k1
                  replace HS := HS.call k1
                  clear k1
                  refine ⟨fun _ => HH, ?_⟩
                  refine dx_two (i := 7) (j := 11) (by kernel_rfl) ?_ ?_
                  · refine op_call (i := 7) HF rfl Tryd.func39 (by kernel_rfl) (by kernel_rfl) (evs_cons rfl evs_nil) (HR2 w HS.kp) rfl rfl ?_; clear HF ac
                    rintro _ w ⟨rfl, k1⟩
                    refine ⟨_, rfl, fun ac HF => ?_⟩
                    replace HH := HH.call k1
                    replace HS := HS.call k1
                    clear k1
                    refine ⟨fun _ => HH, ?_⟩
                    refine dx_two (i := 9) (j := 11) (by kernel_rfl) ?_ ?_
                    · refine op_call (i := 9) HF rfl Tryd.func39 (by kernel_rfl) (by kernel_rfl) (evs_cons rfl evs_nil) (HR3 w HS.kp) rfl rfl ?_; clear HF ac
                      rintro _ w ⟨rfl, k1⟩
                      refine ⟨_, rfl, fun ac HF => ?_⟩
                      replace HH := HH.call k1
                      replace HS := HS.call k1
                      clear k1
                      refine ⟨fun _ => HH, ?_⟩
                      refine dx_one (i := 11) (by kernel_rfl) ?_
                      refine op_ef (i := 11) HF rfl rfl rfl (ef_alloc HS ze38) ?_; clear HF HS ac; rintro _ w ac ⟨g14, rfl, HS⟩ HF
                      replace HH := HS.d3
                      refine ⟨fun _ => HH, ?_⟩
                      refine dx_one (i := 13) (by kernel_rfl) ?_
                      refine op_ef0 (i := 13) HF rfl rfl (ef_store HS sz38 rfl rfl rfl) ?_; clear HS; rintro _ w HS
                      replace HH := HS.d3
                      refine ⟨fun _ => HH, ?_⟩
                      refine dx_one (i := 14) (by kernel_rfl) ?_
                      refine op_ef0 (i := 14) HF rfl rfl (ef_store HS sz38 rfl rfl rfl) ?_; clear HS; rintro _ w HS
                      replace HH := HS.d3
                      refine ⟨fun _ => HH, ?_⟩
                      refine dx_one (i := 15) (by kernel_rfl) ?_
                      refine op_ef0 (i := 15) HF rfl rfl (ef_store HS sz38 rfl rfl rfl) ?_; clear HS; rintro _ w HS
                      replace HH := HS.d3
                      refine ⟨fun _ => HH, ?_⟩
                      refine dx_done (by kernel_rfl) ?_
                      exact J _ _ ⟨_, _, _, HF.sub (by repeat (first | exact ag_nil | refine ag_cons rfl ?_)), HS.rot.rot⟩
                    · refine op_ef (i := 11) HF rfl rfl rfl (ef_alloc HS ze38) ?_; clear HF HS ac; rintro _ w ac ⟨g14, rfl, HS⟩ HF
                      replace HH := HS.d3
                      refine ⟨fun _ => HH, ?_⟩
                      refine dx_one (i := 9) (by kernel_rfl) ?_
                      refine op_call (i := 9) HF rfl Tryd.func39 (by kernel_rfl) (by kernel_rfl) (evs_cons rfl evs_nil) (HR3 w HS.kp) rfl rfl ?_; clear HF ac
                      rintro _ w ⟨rfl, k1⟩
                      refine ⟨_, rfl, fun ac HF => ?_⟩
                      replace HH := HH.call k1
                      replace HS := HS.call k1
                      clear k1
                      refine ⟨fun _ => HH, ?_⟩
                      refine dx_one (i := 13) (by kernel_rfl) ?_
                      refine op_ef0 (i := 13) HF rfl rfl (ef_store HS sz38 rfl rfl rfl) ?_; clear HS; rintro _ w HS
                      replace HH := HS.d3
                      refine ⟨fun _ => HH, ?_⟩
                      refine dx_one (i := 14) (by kernel_rfl) ?_
                      refine op_ef0 (i := 14) HF rfl rfl (ef_store HS sz38 rfl rfl rfl) ?_; clear HS; rintro _ w HS
                      replace HH := HS.d3
                      refine ⟨fun _ => HH, ?_⟩
                      refine dx_one (i := 15) (by kernel_rfl) ?_
                      refine op_ef0 (i := 15) HF rfl rfl (ef_store HS sz38 rfl rfl rfl) ?_; clear HS; rintro _ w HS
                      replace HH := HS.d3
                      refine ⟨fun _ => HH, ?_⟩
                      refine dx_done (by kernel_rfl) ?_
                      exact J _ _ ⟨_, _, _, HF.sub (by repeat (first | exact ag_nil | refine ag_cons rfl ?_)), HS.rot.rot⟩
                  · refine op_ef (i := 11) HF rfl rfl rfl (ef_alloc HS ze38) ?_; clear HF HS ac; rintro _ w ac ⟨g14, rfl, HS⟩ HF
                    replace HH := HS.d3
                    refine ⟨fun _ => HH, ?_⟩
                    refine dx_one (i := 7) (by kernel_rfl) ?_
                    refine op_call (i := 7) HF rfl Tryd.func39 (by kernel_rfl) (by kernel_rfl) (evs_cons rfl evs_nil) (HR2 w HS.kp) rfl rfl ?_; clear HF ac
                    rintro _ w ⟨rfl, k1⟩
                    refine ⟨_, rfl, fun ac HF => ?_⟩
                    replace HH := HH.call k1
                    replace HS := HS.call k1
                    clear k1
                    refine ⟨fun _ => HH, ?_⟩
                    refine dx_one (i := 9) (by kernel_rfl) ?_
                    refine op_call (i := 9) HF rfl Tryd.func39 (by kernel_rfl) (by kernel_rfl) (evs_cons rfl evs_nil) (HR3 w HS.kp) rfl rfl ?_; clear HF ac
                    rintro _ w ⟨rfl, k1⟩
                    refine ⟨_, rfl, fun ac HF => ?_⟩
                    replace HH := HH.call k1
                    replace HS := HS.call k1
                    clear k1
                    refine ⟨fun _ => HH, ?_⟩
                    refine dx_one (i := 13) (by kernel_rfl) ?_
                    refine op_ef0 (i := 13) HF rfl rfl (ef_store HS sz38 rfl rfl rfl) ?_; clear HS; rintro _ w HS
                    replace HH := HS.d3
                    refine ⟨fun _ => HH, ?_⟩
                    refine dx_one (i := 14) (by kernel_rfl) ?_
                    refine op_ef0 (i := 14) HF rfl rfl (ef_store HS sz38 rfl rfl rfl) ?_; clear HS; rintro _ w HS
                    replace HH := HS.d3
                    refine ⟨fun _ => HH, ?_⟩
                    refine dx_one (i := 15) (by kernel_rfl) ?_
                    refine op_ef0 (i := 15) HF rfl rfl (ef_store HS sz38 rfl rfl rfl) ?_; clear HS; rintro _ w HS
                    replace HH := HS.d3
                    refine ⟨fun _ => HH, ?_⟩
                    refine dx_done (by kernel_rfl) ?_
                    exact J _ _ ⟨_, _, _, HF.sub (by repeat (first | exact ag_nil | refine ag_cons rfl ?_)), HS.rot.rot⟩
                · refine op_ef (i := 11) HF rfl rfl rfl (ef_alloc HS ze38) ?_; clear HF HS ac; rintro _ w ac ⟨g14, rfl, HS⟩ HF
                  replace HH := HS.d3
                  refine ⟨fun _ => HH, ?_⟩
                  refine dx_one (i := 3) (by kernel_rfl) ?_
                  refine op_call (i := 3) HF rfl Tryd.func39 (by kernel_rfl) (by kernel_rfl) (evs_cons rfl evs_nil) (HR1 w HS.kp) rfl rfl ?_; clear HF ac
                  rintro _ w ⟨rfl, k1⟩
                  refine ⟨_, rfl, fun ac HF => ?_⟩
                  replace HH := HH.call k1
                  replace HS := HS.call k1
                  clear k1
                  refine ⟨fun _ => HH, ?_⟩
                  refine dx_one (i := 7) (by kernel_rfl) ?_
                  refine op_call (i := 7) HF rfl Tryd.func39 (by kernel_rfl) (by kernel_rfl) (evs_cons rfl evs_nil) (HR2 w HS.kp) rfl rfl ?_; clear HF ac
                  rintro _ w ⟨rfl, k1⟩
                  refine ⟨_, rfl, fun ac HF => ?_⟩
                  replace HH := HH.call k1
                  replace HS := HS.call k1
                  clear k1
                  refine ⟨fun _ => HH, ?_⟩
                  refine dx_one (i := 9) (by kernel_rfl) ?_
                  refine op_call (i := 9) HF rfl Tryd.func39 (by kernel_rfl) (by kernel_rfl) (evs_cons rfl evs_nil) (HR3 w HS.kp) rfl rfl ?_; clear HF ac
                  rintro _ w ⟨rfl, k1⟩
                  refine ⟨_, rfl, fun ac HF => ?_⟩
                  replace HH := HH.call k1
                  replace HS := HS.call k1
                  clear k1
                  refine ⟨fun _ => HH, ?_⟩
                  refine dx_one (i := 13) (by kernel_rfl) ?_
                  refine op_ef0 (i := 13) HF rfl rfl (ef_store HS sz38 rfl rfl rfl) ?_; clear HS; rintro _ w HS
                  replace HH := HS.d3
                  refine ⟨fun _ => HH, ?_⟩
                  refine dx_one (i := 14) (by kernel_rfl) ?_
                  refine op_ef0 (i := 14) HF rfl rfl (ef_store HS sz38 rfl rfl rfl) ?_; clear HS; rintro _ w HS
                  replace HH := HS.d3
                  refine ⟨fun _ => HH, ?_⟩
                  refine dx_one (i := 15) (by kernel_rfl) ?_
                  refine op_ef0 (i := 15) HF rfl rfl (ef_store HS sz38 rfl rfl rfl) ?_; clear HS; rintro _ w HS
                  replace HH := HS.d3
                  refine ⟨fun _ => HH, ?_⟩
                  refine dx_done (by kernel_rfl) ?_
                  exact J _ _ ⟨_, _, _, HF.sub (by repeat (first | exact ag_nil | refine ag_cons rfl ?_)), HS.rot.rot⟩
              · refine op_ef (i := 11) HF rfl rfl rfl (ef_alloc HS ze38) ?_; clear HF HS ac; rintro _ w ac ⟨g14, rfl, HS⟩ HF
                replace HH := HS.d2
                refine ⟨fun _ => HH, ?_⟩
                refine dx_two (i := 3) (j := 10) (by kernel_rfl) ?_ ?_
                · refine op_call (i := 3) HF rfl Tryd.func39 (by kernel_rfl) (by kernel_rfl) (evs_cons rfl evs_nil) (HR1 w HS.kp) rfl rfl ?_; clear HF ac
                  rintro _ w ⟨rfl, k1⟩
                  refine ⟨_, rfl, fun ac HF => ?_⟩
                  replace HH := HH.call k1
                  replace HS := HS.call k1
                  clear k1
                  refine ⟨fun _ => HH, ?_⟩
                  refine dx_two (i := 7) (j := 10) (by kernel_rfl) ?_ ?_
                  · refine op_call (i := 7) HF rfl Tryd.func39 (by kernel_rfl) (by kernel_rfl) (evs_cons rfl evs_nil) (HR2 w HS.kp) rfl rfl ?_; clear HF ac
                    rintro _ w ⟨rfl, k1⟩
                    refine ⟨_, rfl, fun ac HF => ?_⟩
                    replace HH := HH.call k1
                    replace HS := HS.call k1
                    clear k1
                    refine ⟨fun _ => HH, ?_⟩
                    refine dx_two (i := 9) (j := 10) (by kernel_rfl) ?_ ?_
                    · refine op_call (i := 9) HF rfl Tryd.func39 (by kernel_rfl) (by kernel_rfl) (evs_cons rfl evs_nil) (HR3 w HS.kp) rfl rfl ?_; clear HF ac
                      rintro _ w ⟨rfl, k1⟩
                      refine ⟨_, rfl, fun ac HF => ?_⟩
                      replace HH := HH.call k1
                      replace HS := HS.call k1
                      clear k1
                      refine ⟨fun _ => HH, ?_⟩
                      refine dx_one (i := 10) (by kernel_rfl) ?_
                      refine op_ef (i := 10) HF rfl rfl rfl (ef_alloc HS ze38) ?_; clear HF HS ac; rintro _ w ac ⟨g13, rfl, HS⟩ HF
                      replace HH := HS.d3
                      refine ⟨fun _ => HH, ?_⟩
                      refine dx_one (i := 13) (by kernel_rfl) ?_
                      refine op_ef0 (i := 13) HF rfl rfl (ef_store HS sz38 rfl rfl rfl) ?_; clear HS; rintro _ w HS
                      replace HH := HS.d3
                      refine ⟨fun _ => HH, ?_⟩
                      refine dx_one (i := 14) (by kernel_rfl) ?_
                      refine op_ef0 (i := 14) HF rfl rfl (ef_store HS sz38 rfl rfl rfl) ?_; clear HS; rintro _ w HS
                      replace HH := HS.d3
                      refine ⟨fun _ => HH, ?_⟩
                      refine dx_one (i := 15) (by kernel_rfl) ?_
                      refine op_ef0 (i := 15) HF rfl rfl (ef_store HS sz38 rfl rfl rfl) ?_; clear HS; rintro _ w HS
                      replace HH := HS.d3
                      refine ⟨fun _ => HH, ?_⟩
                      refine dx_done (by kernel_rfl) ?_
                      exact J _ _ ⟨_, _, _, HF.sub (by repeat (first | exact ag_nil | refine ag_cons rfl ?_)), HS.rot.swap⟩
                    · refine op_ef (i := 10) HF rfl rfl rfl (ef_alloc HS ze38) ?_; clear HF HS ac; rintro _ w ac ⟨g13, rfl, HS⟩ HF
                      replace HH := HS.d3
                      refine ⟨fun _ => HH, ?_⟩
                      refine dx_one (i := 9) (by kernel_rfl) ?_
                      refine op_call (i := 9) HF rfl Tryd.func39 (by kernel_rfl) (by kernel_rfl) (evs_cons rfl evs_nil) (HR3 w HS.kp) rfl rfl ?_; clear HF ac
                      rintro _ w ⟨rfl, k1⟩
                      refine ⟨_, rfl, fun ac HF => ?_⟩
                      replace HH := HH.call k1
                      replace HS := HS.call k1
                      clear k1
                      refine ⟨fun _ => HH, ?_⟩
                      refine dx_one (i := 13) (by kernel_rfl) ?_
                      refine op_ef0 (i := 13) HF rfl rfl (ef_store HS sz38 rfl rfl rfl) ?_; clear HS; rintro _ w HS
                      replace HH := HS.d3
                      refine ⟨fun _ => HH, ?_⟩
                      refine dx_one (i := 14) (by kernel_rfl) ?_
                      refine op_ef0 (i := 14) HF rfl rfl (ef_store HS sz38 rfl rfl rfl) ?_; clear HS; rintro _ w HS
                      replace HH := HS.d3
                      refine ⟨fun _ => HH, ?_⟩
                      refine dx_one (i := 15) (by kernel_rfl) ?_
                      refine op_ef0 (i := 15) HF rfl rfl (ef_store HS sz38 rfl rfl rfl) ?_; clear HS; rintro _ w HS
                      replace HH := HS.d3
                      refine ⟨fun _ => HH, ?_⟩
                      refine dx_done (by kernel_rfl) ?_
                      exact J _ _ ⟨_, _, _, HF.sub (by repeat (first | exact ag_nil | refine ag_cons rfl ?_)), HS.rot.swap⟩
                  · refine op_ef (i := 10) HF rfl rfl rfl (ef_alloc HS ze38) ?_; clear HF HS ac; rintro _ w ac ⟨g13, rfl, HS⟩ HF
                    replace HH := HS.d3
                    refine ⟨fun _ => HH, ?_⟩
                    refine dx_one (i := 7) (by kernel_rfl) ?_
                    refine op_call (i := 7) HF rfl Tryd.func39 (by kernel_rfl) (by kernel_rfl) (evs_cons rfl evs_nil) (HR2 w HS.kp) rfl rfl ?_; clear HF ac
                    rintro _ w ⟨rfl, k1⟩
                    refine ⟨_, rfl, fun ac HF => ?_⟩
                    replace HH := HH.call k1
                    replace HS := HS.call k1
                    clear k1
                    refine ⟨fun _ => HH, ?_⟩
                    refine dx_one (i := 9) (by kernel_rfl) ?_
                    refine op_call (i := 9) HF rfl Tryd.func39 (by kernel_rfl) (by kernel_rfl) (evs_cons rfl evs_nil) (HR3 w HS.kp) rfl rfl ?_; clear HF ac
                    rintro _ w ⟨rfl, k1⟩
                    refine ⟨_, rfl, fun ac HF => ?_⟩
                    replace HH := HH.call k1
                    replace HS := HS.call k1
                    clear k1
                    refine ⟨fun _ => HH, ?_⟩
                    refine dx_one (i := 13) (by kernel_rfl) ?_
                    refine op_ef0 (i := 13) HF rfl rfl (ef_store HS sz38 rfl rfl rfl) ?_; clear HS; rintro _ w HS
                    replace HH := HS.d3
                    refine ⟨fun _ => HH, ?_⟩
                    refine dx_one (i := 14) (by kernel_rfl) ?_
                    refine op_ef0 (i := 14) HF rfl rfl (ef_store HS sz38 rfl rfl rfl) ?_; clear HS; rintro _ w HS
                    replace HH := HS.d3
                    refine ⟨fun _ => HH, ?_⟩
                    refine dx_one (i := 15) (by kernel_rfl) ?_
                    refine op_ef0 (i := 15) HF rfl rfl (ef_store HS sz38 rfl rfl rfl) ?_; clear HS; rintro _ w HS
                    replace HH := HS.d3
                    refine ⟨fun _ => HH, ?_⟩
                    refine dx_done (by kernel_rfl) ?_
                    exact J _ _ ⟨_, _, _, HF.sub (by repeat (first | exact ag_nil | refine ag_cons rfl ?_)), HS.rot.swap⟩
                · refine op_ef (i := 10) HF rfl rfl rfl (ef_alloc HS ze38) ?_; clear HF HS ac; rintro _ w ac ⟨g13, rfl, HS⟩ HF
                  replace HH := HS.d3
                  refine ⟨fun _ => HH, ?_⟩
                  refine dx_one (i := 3) (by kernel_rfl) ?_
                  refine op_call (i := 3) HF rfl Tryd.func39 (by kernel_rfl) (by kernel_rfl) (evs_cons rfl evs_nil) (HR1 w HS.kp) rfl rfl ?_; clear HF ac
                  rintro _ w ⟨rfl, k1⟩
                  refine ⟨_, rfl, fun ac HF => ?_⟩
                  replace HH := HH.call k1
                  replace HS := HS.call k1
                  clear k1
                  refine ⟨fun _ => HH, ?_⟩
                  refine dx_one (i := 7) (by kernel_rfl) ?_
                  refine op_call (i := 7) HF rfl Tryd.func39 (by kernel_rfl) (by kernel_rfl) (evs_cons rfl evs_nil) (HR2 w HS.kp) rfl rfl ?_; clear HF ac
                  rintro _ w ⟨rfl, k1⟩
                  refine ⟨_, rfl, fun ac HF => ?_⟩
                  replace HH := HH.call k1
                  replace HS := HS.call k1
                  clear k1
                  refine ⟨fun _ => HH, ?_⟩
                  refine dx_one (i := 9) (by kernel_rfl) ?_
                  refine op_call (i := 9) HF rfl Tryd.func39 (by kernel_rfl) (by kernel_rfl) (evs_cons rfl evs_nil) (HR3 w HS.kp) rfl rfl ?_; clear HF ac
                  rintro _ w ⟨rfl, k1⟩
                  refine ⟨_, rfl, fun ac HF => ?_⟩
                  replace HH := HH.call k1
                  replace HS := HS.call k1
                  clear k1
                  refine ⟨fun _ => HH, ?_⟩
                  refine dx_one (i := 13) (by kernel_rfl) ?_
                  refine op_ef0 (i := 13) HF rfl rfl (ef_store HS sz38 rfl rfl rfl) ?_; clear HS; rintro _ w HS
                  replace HH := HS.d3
                  refine ⟨fun _ => HH, ?_⟩
                  refine dx_one (i := 14) (by kernel_rfl) ?_
                  refine op_ef0 (i := 14) HF rfl rfl (ef_store HS sz38 rfl rfl rfl) ?_; clear HS; rintro _ w HS
                  replace HH := HS.d3
                  refine ⟨fun _ => HH, ?_⟩
                  refine dx_one (i := 15) (by kernel_rfl) ?_
                  refine op_ef0 (i := 15) HF rfl rfl (ef_store HS sz38 rfl rfl rfl) ?_; clear HS; rintro _ w HS
                  replace HH := HS.d3
                  refine ⟨fun _ => HH, ?_⟩
                  refine dx_done (by kernel_rfl) ?_
                  exact J _ _ ⟨_, _, _, HF.sub (by repeat (first | exact ag_nil | refine ag_cons rfl ?_)), HS.rot.swap⟩

end Go.Proofs.YtkjdnpalafldhaaDoor.proofGrows
