/-
  CompactParses: its walk. (Printed by sx_cmpparses.py.)
-/
import Derived.Test.YtalnkhgonfcabaaDoorCmp7
namespace Go.Proofs.YtalnkhgonfcabaaDoor.compactParses
open Go.RowKit Go.Proofs.YtalnkhgonfcabaaDoor

set_option maxRecDepth 100000 in
theorem walk_a (bs : List UInt8) (a : Option Addr) (c : Nat) (w0 : World) (_hr : Rd w0 a bs.length c 1 (bcs bs)) (hb : 3000 < bs.length) (hT : Tab w0) (hL : Laid w0) (h2 : 4 ≤ w0.heap.size) :
    Calls Tryd.prog 4 #[.slice a bs.length c] w0 fun e w' => e = .returned (.bool true) ∧ Kp [] w0 w' := by
  refine calls_st (F := []) (args := [.slice a bs.length c]) Tryd.func4 rfl (n := 57) rfl rfl ?_
  intro ac w HF HS
  refine wp_seq ?_
  refine wp_region_lit ?_
  refine sx_y HF HS (yl_assign rfl) rfl rfl ?_; clear HF ac; intro ac HF
  refine wpList_nil ?_
  refine then_n ?_
  refine wp_seq ?_
  refine wp_seq ?_
  refine wp_region_lit ?_
  refine sx_y HF HS (yl_move rfl) rfl rfl ?_; clear HF ac; intro ac HF
  refine sx_y HF HS (yl_len_slice Tryd.underlying39 rfl) rfl rfl ?_; clear HF ac; intro ac HF
  refine sx_y HF HS (yl_gtr rfl rfl (decide_eq_true (by omega))) rfl rfl ?_; clear HF ac; intro ac HF
  refine wpList_nil ?_
  refine then_n ?_
  refine cx_true HF rfl ?_
  refine wp_seq ?_
  refine wp_region_lit ?_
  refine sx_call HF Tryd.func15 (by kernel_rfl) (by kernel_rfl) evs_nil (awake9_any w (hT.below HS.kp) (hL.below HS.kp) (Nat.le_trans h2 HS.kp.size)) rfl rfl ?_; clear HF ac
  rintro _ w ⟨rfl, k1⟩
  refine ⟨_, rfl, fun ac HF => ?_⟩
  replace HS := HS.call k1
  clear k1
  refine sx_y HF HS (yl_assign rfl) rfl rfl ?_; clear HF ac; intro ac HF
  refine wpList_nil ?_
  refine then_n ?_
  refine wp_ret ?_
  refine then_r ?_
  exact rt1 rfl HF HS rfl ⟨rfl, HS.kp⟩

set_option maxRecDepth 100000 in
theorem walk_b (bs : List UInt8) (a : Option Addr) (c : Nat) (w0 : World) (hr : Rd w0 a bs.length c 1 (bcs bs)) (hb : bs.length ≤ 3000) (hk : pOk bs = false) (hT : Tab w0) (hL : Laid w0) (h2 : 4 ≤ w0.heap.size) :
    Calls Tryd.prog 4 #[.slice a bs.length c] w0 fun e w' => e = .returned (.bool true) ∧ Kp [] w0 w' := by
  obtain ⟨n, hn⟩ : ∃ n : Nat, (pS bs).1 = n := ⟨(pS bs).1.toNat, (Int.toNat_of_nonneg (pS_le bs).1).symm⟩
  refine calls_st (F := []) (args := [.slice a bs.length c]) Tryd.func4 rfl (n := 57) rfl rfl ?_
  intro ac w HF HS
  refine wp_seq ?_
  refine wp_region_lit ?_
  refine sx_y HF HS (yl_assign rfl) rfl rfl ?_; clear HF ac; intro ac HF
  refine wpList_nil ?_
  refine then_n ?_
  refine wp_seq ?_
  refine wp_seq ?_
  refine wp_region_lit ?_
  refine sx_y HF HS (yl_move rfl) rfl rfl ?_; clear HF ac; intro ac HF
  refine sx_y HF HS (yl_len_slice Tryd.underlying39 rfl) rfl rfl ?_; clear HF ac; intro ac HF
  refine sx_y HF HS (yl_gtr rfl rfl (decide_eq_false (by omega))) rfl rfl ?_; clear HF ac; intro ac HF
  refine wpList_nil ?_
  refine then_n ?_
  refine cx_false HF rfl ?_
  refine wp_skip ?_
  refine then_n ?_
  refine wp_seq ?_
  refine wp_region_lit ?_
  refine sx_y HF HS (yl_move rfl) rfl rfl ?_; clear HF ac; intro ac HF
  refine sx_call HF Tryd.func26 (by kernel_rfl) (by kernel_rfl) (evs_cons rfl evs_nil) (parse9_bad bs a c n w (hr.below HS.kp) (by omega) hn hk) rfl rfl ?_; clear HF ac
  rintro _ w ⟨rfl, k1⟩
  refine ⟨_, rfl, fun ac HF => ?_⟩
  replace HS := HS.call k1
  clear k1
  refine sx_y HF HS (yl_move rfl) rfl rfl ?_; clear HF ac; intro ac HF
  refine sx_y HF HS (yl_extract rfl rfl) rfl rfl ?_; clear HF ac; intro ac HF
  refine sx_y HF HS (yl_extract rfl rfl) rfl rfl ?_; clear HF ac; intro ac HF
  refine sx_y HF HS (yl_assign rfl) rfl rfl ?_; clear HF ac; intro ac HF
  refine sx_y HF HS (yl_assign rfl) rfl rfl ?_; clear HF ac; intro ac HF
  refine wpList_nil ?_
  refine then_n ?_
  refine wp_seq ?_
  refine wp_seq ?_
  refine wp_region_lit ?_
  refine sx_y HF HS (yl_move rfl) rfl rfl ?_; clear HF ac; intro ac HF
  refine sx_y HF HS (yl_neq rfl rfl (decide_eq_true (by exact (by decide)))) rfl rfl ?_; clear HF ac; intro ac HF
  refine wpList_nil ?_
  refine then_n ?_
  refine cx_true HF rfl ?_
  refine wp_seq ?_
  refine wp_region_lit ?_
  refine sx_y HF HS (yl_move rfl) rfl rfl ?_; clear HF ac; intro ac HF
  refine sx_y HF HS (yl_eql rfl rfl (decide_eq_true (by exact rfl))) rfl rfl ?_; clear HF ac; intro ac HF
  refine sx_y HF HS (yl_move rfl) rfl rfl ?_; clear HF ac; intro ac HF
  refine sx_y HF HS (yl_move rfl) rfl rfl ?_; clear HF ac; intro ac HF
  refine sx_y HF HS (yl_eqPtr Tryd.underlying25 rfl rfl (by exact rfl)) rfl rfl ?_; clear HF ac; intro ac HF
  refine sx_y HF HS (yl_pick (b := true) rfl rfl) rfl rfl ?_; clear HF ac; intro ac HF
  refine sx_y HF HS (yl_move rfl) rfl rfl ?_; clear HF ac; intro ac HF
  refine sx_call HF Tryd.func15 (by kernel_rfl) (by kernel_rfl) evs_nil (awake9_any w (hT.below HS.kp) (hL.below HS.kp) (Nat.le_trans h2 HS.kp.size)) rfl rfl ?_; clear HF ac
  rintro _ w ⟨rfl, k1⟩
  refine ⟨_, rfl, fun ac HF => ?_⟩
  replace HS := HS.call k1
  clear k1
  refine sx_y HF HS (yl_pick (b := true) rfl rfl) rfl rfl ?_; clear HF ac; intro ac HF
  refine sx_y HF HS (yl_assign rfl) rfl rfl ?_; clear HF ac; intro ac HF
  refine wpList_nil ?_
  refine then_n ?_
  refine wp_ret ?_
  refine then_r ?_
  exact rt1 rfl HF HS rfl ⟨rfl, HS.kp⟩

set_option maxRecDepth 100000 in
theorem walk_c (bs : List UInt8) (a : Option Addr) (c : Nat) (w0 : World) (hr : Rd w0 a bs.length c 1 (bcs bs)) (hb : bs.length ≤ 3000) (hk : pOk bs = true) (hT : Tab w0) (hL : Laid w0) (h2 : 4 ≤ w0.heap.size) :
    Calls Tryd.prog 4 #[.slice a bs.length c] w0 fun e w' => e = .returned (.bool true) ∧ Kp [] w0 w' := by
  obtain ⟨n, hn⟩ : ∃ n : Nat, (pS bs).1 = n := ⟨(pS bs).1.toNat, (Int.toNat_of_nonneg (pS_le bs).1).symm⟩
  have hnl := (pS_le bs).2
  have hpl := pH_le bs
  have hbs := bytes_parse bs hk
  rw [hn, Int.toNat_natCast] at hbs
  have hpop : (pH bs).1.length = pop n := by
    unfold pOk at hk
    rw [Bool.and_eq_true, hn, Int.toNat_natCast] at hk
    exact of_decide_eq_true hk.2
  refine calls_st (F := []) (args := [.slice a bs.length c]) Tryd.func4 rfl (n := 57) rfl rfl ?_
  intro ac w HF HS
  refine wp_seq ?_
  refine wp_region_lit ?_
  refine sx_y HF HS (yl_assign rfl) rfl rfl ?_; clear HF ac; intro ac HF
  refine wpList_nil ?_
  refine then_n ?_
  refine wp_seq ?_
  refine wp_seq ?_
  refine wp_region_lit ?_
  refine sx_y HF HS (yl_move rfl) rfl rfl ?_; clear HF ac; intro ac HF
  refine sx_y HF HS (yl_len_slice Tryd.underlying39 rfl) rfl rfl ?_; clear HF ac; intro ac HF
  refine sx_y HF HS (yl_gtr rfl rfl (decide_eq_false (by omega))) rfl rfl ?_; clear HF ac; intro ac HF
  refine wpList_nil ?_
  refine then_n ?_
  refine cx_false HF rfl ?_
  refine wp_skip ?_
  refine then_n ?_
  refine wp_seq ?_
  refine wp_region_lit ?_
  refine sx_y HF HS (yl_move rfl) rfl rfl ?_; clear HF ac; intro ac HF
  refine sx_call HF Tryd.func26 (by kernel_rfl) (by kernel_rfl) (evs_cons rfl evs_nil) (parse9_ok bs a c n w (hr.below HS.kp) (by omega) hn hk) rfl rfl ?_; clear HF ac
  rintro _ w ⟨g, a1, c1, rfl, k1⟩
  refine ⟨_, rfl, fun ac HF => ?_⟩
  replace HS : St [] w0 [⟨g, sgA (rgS (n : Int) a1 (pH bs).1.length c1), 101⟩] [⟨33, 32, a1, (pH bs).1.length, c1, hsc (pH bs).1⟩] w := HS.join k1
  clear k1
  refine sx_y HF HS (yl_move rfl) rfl rfl ?_; clear HF ac; intro ac HF
  refine sx_y HF HS (yl_extract rfl rfl) rfl rfl ?_; clear HF ac; intro ac HF
  refine sx_y HF HS (yl_extract rfl rfl) rfl rfl ?_; clear HF ac; intro ac HF
  refine sx_y HF HS (yl_assign rfl) rfl rfl ?_; clear HF ac; intro ac HF
  refine sx_y HF HS (yl_assign rfl) rfl rfl ?_; clear HF ac; intro ac HF
  refine wpList_nil ?_
  refine then_n ?_
  refine wp_seq ?_
  refine wp_seq ?_
  refine wp_region_lit ?_
  refine sx_y HF HS (yl_move rfl) rfl rfl ?_; clear HF ac; intro ac HF
  refine sx_y HF HS (yl_neq rfl rfl (decide_eq_false (by exact (fun h => h rfl)))) rfl rfl ?_; clear HF ac; intro ac HF
  refine wpList_nil ?_
  refine then_n ?_
  refine cx_false HF rfl ?_
  refine wp_skip ?_
  refine then_n ?_
  refine wp_seq ?_
  refine wp_seq ?_
  refine wp_region_lit ?_
  refine sx_y HF HS (yl_move rfl) rfl rfl ?_; clear HF ac; intro ac HF
  refine sx_y HF HS (yl_eqPtr Tryd.underlying25 rfl rfl (by exact rfl)) rfl rfl ?_; clear HF ac; intro ac HF
  refine sx_y HF HS (yl_move rfl) rfl rfl ?_; clear HF ac; intro ac HF
  refine sx_y HF HS (yl_move rfl) rfl rfl ?_; clear HF ac; intro ac HF
  refine sx_call HF Tryd.func20 (by kernel_rfl) (by kernel_rfl) (evs_cons rfl evs_nil) (size9_any g _ _ _ _ w (HS.blk _ List.mem_cons_self)) rfl rfl ?_; clear HF ac
  rintro _ w ⟨rfl, k1⟩
  refine ⟨_, rfl, fun ac HF => ?_⟩
  replace HS := HS.call k1
  clear k1
  refine sx_y HF HS (yl_lss rfl rfl (decide_eq_false (by omega))) rfl rfl ?_; clear HF ac; intro ac HF
  refine sx_y HF HS (yl_pick (b := false) rfl rfl) rfl rfl ?_; clear HF ac; intro ac HF
  refine sx_y HF HS (yl_move rfl) rfl rfl ?_; clear HF ac; intro ac HF
  refine sx_y HF HS (yl_move rfl) rfl rfl ?_; clear HF ac; intro ac HF
  refine sx_call HF Tryd.func20 (by kernel_rfl) (by kernel_rfl) (evs_cons rfl evs_nil) (size9_any g _ _ _ _ w (HS.blk _ List.mem_cons_self)) rfl rfl ?_; clear HF ac
  rintro _ w ⟨rfl, k1⟩
  refine ⟨_, rfl, fun ac HF => ?_⟩
  replace HS := HS.call k1
  clear k1
  refine sx_y HF HS (yl_gtr rfl rfl (decide_eq_false (by omega))) rfl rfl ?_; clear HF ac; intro ac HF
  refine sx_y HF HS (yl_pick (b := false) rfl rfl) rfl rfl ?_; clear HF ac; intro ac HF
  refine sx_y HF HS (yl_move rfl) rfl rfl ?_; clear HF ac; intro ac HF
  refine sx_y HF HS (yl_move rfl) rfl rfl ?_; clear HF ac; intro ac HF
  refine sx_call HF Tryd.func22 (by kernel_rfl) (by kernel_rfl) (evs_cons rfl evs_nil) (peaks9_any g n (pH bs).1 a1 c1 w ⟨HS.blk _ List.mem_cons_self, HS.row _ List.mem_cons_self⟩ (by omega)) rfl rfl ?_; clear HF ac
  rintro _ w ⟨a39, c39, rfl, k1⟩
  refine ⟨_, rfl, fun ac HF => ?_⟩
  replace HS := HS.joinR1 k1
  clear k1
  refine sx_y HF HS (yl_len_slice Tryd.underlying22 rfl) rfl rfl ?_; clear HF ac; intro ac HF
  refine sx_y HF HS (yl_move rfl) rfl rfl ?_; clear HF ac; intro ac HF
  refine sx_call HF Tryd.func20 (by kernel_rfl) (by kernel_rfl) (evs_cons rfl evs_nil) (size9_any g _ _ _ _ w (HS.blk _ List.mem_cons_self)) rfl rfl ?_; clear HF ac
  rintro _ w ⟨rfl, k1⟩
  refine ⟨_, rfl, fun ac HF => ?_⟩
  replace HS := HS.call k1
  clear k1
  refine sx_call HF Tryd.func27 (by kernel_rfl) (by kernel_rfl) (evs_cons rfl evs_nil) (refCount_any n w (by omega)) rfl rfl ?_; clear HF ac
  rintro _ w ⟨rfl, k1⟩
  refine ⟨_, rfl, fun ac HF => ?_⟩
  replace HS := HS.call k1
  clear k1
  refine sx_y HF HS (yl_neq rfl rfl (decide_eq_false (by omega))) rfl rfl ?_; clear HF ac; intro ac HF
  refine sx_y HF HS (yl_pick (b := false) rfl rfl) rfl rfl ?_; clear HF ac; intro ac HF
  refine wpList_nil ?_
  refine then_n ?_
  refine cx_false HF rfl ?_
  refine wp_skip ?_
  refine then_n ?_
  refine wp_seq ?_
  refine dx_region 12 (by kernel_rfl) HS.drew (fun _ h => h.sub (List.Sublist.cons _ List.Sublist.slnil) (List.nil_sublist _)) ?_; clear HS; intro w HS
  have HH := HS.sub (List.Sublist.cons _ List.Sublist.slnil) (List.nil_sublist _)
  refine dx_p (i := 0) HF rfl (by kernel_rfl) (by kernel_rfl) (by kernel_rfl) (by decide) (fun _ _ _ h => h) (fun _ => HH) (yl_move rfl) rfl rfl ?_; clear HF ac; intro ac HF
  refine dx_p (i := 2) HF rfl (by kernel_rfl) (by kernel_rfl) (by kernel_rfl) (by decide) (fun _ _ _ h => h) (fun _ => HH) (yl_move rfl) rfl rfl ?_; clear HF ac; intro ac HF
  refine dx_p (i := 5) HF rfl (by kernel_rfl) (by kernel_rfl) (by kernel_rfl) (by decide) (fun _ _ _ h => h) (fun _ => HH) (yl_move rfl) rfl rfl ?_; clear HF ac; intro ac HF
  refine dx_k (i := 6) HF rfl (by kernel_rfl) (by kernel_rfl) (by kernel_rfl) (by kernel_rfl) (by kernel_rfl) (fun _ _ _ h => h) HH (yl_str Tryd.underlying39 Tryd.underlying5 Tryd.underlying9 rfl (fun w h => hr.below h.kp)) rfl rfl ?_; clear HF ac; intro ac HF
  refine dx_one (i := 1) (by kernel_rfl) ?_
  refine op_call (i := 1) HF rfl Tryd.func20 (by kernel_rfl) (by kernel_rfl) (evs_cons rfl evs_nil) (size9_any g _ _ _ _ w (HS.blk _ List.mem_cons_self)) rfl rfl ?_; clear HF ac
  rintro _ w ⟨rfl, k1⟩
  refine ⟨_, rfl, fun ac HF => ?_⟩
  replace HH := HH.call k1
  replace HS := HS.call k1
  clear k1
  refine ⟨fun _ => HH, ?_⟩
  refine dx_one (i := 3) (by kernel_rfl) ?_
  refine op_call (i := 3) HF rfl Tryd.func22 (by kernel_rfl) (by kernel_rfl) (evs_cons rfl evs_nil) (peaks9_any g n (pH bs).1 a1 c1 w ⟨HS.blk _ List.mem_cons_self, HS.row _ (List.mem_cons_of_mem _ List.mem_cons_self)⟩ (by omega)) rfl rfl ?_; clear HF ac
  rintro _ w ⟨a49, c49, rfl, k1⟩
  refine ⟨_, rfl, fun ac HF => ?_⟩
  replace HH := HH.call k1.kp
  replace HS := HS.joinR1 k1
  clear k1
  refine ⟨fun _ => HH, ?_⟩
  refine dx_one (i := 4) (by kernel_rfl) ?_
  refine op_call (i := 4) HF rfl Tryd.func25 (by kernel_rfl) (by kernel_rfl) (evs_cons rfl (evs_cons rfl evs_nil)) (bytes9_any n (pH bs).1 a49 c49 w HS.row0 (by omega)) rfl rfl ?_; clear HF ac
  rintro _ w ⟨rfl, k1⟩
  refine ⟨_, rfl, fun ac HF => ?_⟩
  replace HH := HH.call k1
  replace HS := HS.call k1
  clear k1
  refine ⟨fun _ => HH, ?_⟩
  refine dx_p (i := 7) HF rfl (by kernel_rfl) (by kernel_rfl) (by kernel_rfl) (by decide) (fun _ _ _ h => h) (fun _ => HH) (yl_eqS rfl rfl (decide_eq_true (by exact (show rgB n (pH bs).1 = bs from hbs)))) rfl rfl ?_; clear HF ac; intro ac HF
  refine dx_p (i := 8) HF rfl (by kernel_rfl) (by kernel_rfl) (by kernel_rfl) (by decide) (fun _ _ _ h => h) (fun _ => HH) (yl_move rfl) rfl rfl ?_; clear HF ac; intro ac HF
  refine dx_one (i := 9) (by kernel_rfl) ?_
  refine op_call (i := 9) HF rfl Tryd.func15 (by kernel_rfl) (by kernel_rfl) evs_nil (awake9_any w (hT.below HS.kp) (hL.below HS.kp) (Nat.le_trans h2 HS.kp.size)) rfl rfl ?_; clear HF ac
  rintro _ w ⟨rfl, k1⟩
  refine ⟨_, rfl, fun ac HF => ?_⟩
  replace HH := HH.call k1
  replace HS := HS.call k1
  clear k1
  refine ⟨fun _ => HH, ?_⟩
  refine dx_p (i := 10) HF rfl (by kernel_rfl) (by kernel_rfl) (by kernel_rfl) (by decide) (fun _ _ _ h => h) (fun _ => HH) (yl_pick (b := true) rfl rfl) rfl rfl ?_; clear HF ac; intro ac HF
  refine dx_p (i := 11) HF rfl (by kernel_rfl) (by kernel_rfl) (by kernel_rfl) (by decide) (fun _ _ _ h => h) (fun _ => HH) (yl_assign rfl) rfl rfl ?_; clear HF ac; intro ac HF
  refine dx_done (by kernel_rfl) ?_
  clear HH
  refine then_n ?_
  refine wp_ret ?_
  exact rt1 rfl HF HS rfl ⟨rfl, HS.kp⟩

theorem walk (bs : List UInt8) (a : Option Addr) (c : Nat) (w0 : World) (hr : Rd w0 a bs.length c 1 (bcs bs)) (hT : Tab w0) (hL : Laid w0) (h2 : 4 ≤ w0.heap.size) :
    Calls Tryd.prog 4 #[.slice a bs.length c] w0 fun e w' => e = .returned (.bool true) ∧ Kp [] w0 w' := by
  by_cases hb : 3000 < bs.length
  · exact walk_a bs a c w0 hr hb hT hL h2
  · cases hk : pOk bs with
    | false => exact walk_b bs a c w0 hr (by omega) hk hT hL h2
    | true => exact walk_c bs a c w0 hr (by omega) hk hT hL h2

end Go.Proofs.YtalnkhgonfcabaaDoor.compactParses
