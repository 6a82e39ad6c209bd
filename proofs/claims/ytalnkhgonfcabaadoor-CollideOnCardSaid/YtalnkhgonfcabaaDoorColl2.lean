/-
  collide's inputs: Grow, Concat, Input, halves, nodes, leaves, equal. (Printed by sx_coll2.py.)
-/
import Derived.Test.YtalnkhgonfcabaaDoorColl1
import Derived.Test.YtalnkhgonfcabaaDoorMerk3
namespace Go.Proofs.YtalnkhgonfcabaaDoor
open Go.RowKit

/-! ### Types -/
namespace Coll2
theorem ag85 : AgT Tryd.prog 85 2 := AgT.mk' Tryd.underlying85 rfl (by kernel_rfl)
theorem ag142 : AgT Tryd.prog 142 64 := AgT.mk' Tryd.underlying142 rfl (by kernel_rfl)
theorem sc39 : ScT Tryd.prog 39 := ScT.mk' Tryd.underlying39 rfl (by kernel_rfl)
theorem sl39 : SlT Tryd.prog 39 5 Tryd.t5 (.int .u8 0) 1 1 := ⟨Tryd.underlying39, by kernel_rfl, by kernel_rfl, rfl, rfl, rfl, by decide⟩
theorem sl61 : SlT Tryd.prog 61 39 Tryd.t39 (.slice none 0 0) 1 24 := ⟨Tryd.underlying61, by kernel_rfl, by kernel_rfl, rfl, rfl, rfl, by decide⟩
theorem sz5 : (Tryd.prog.info? 5).map (·.size) = some 1 := by kernel_rfl
theorem sz33 : (Tryd.prog.info? 33).map (·.size) = some 32 := by kernel_rfl
theorem sz39 : (Tryd.prog.info? 39).map (·.size) = some 1 := by kernel_rfl
theorem sz85 : (Tryd.prog.info? 85).map (·.size) = some 2 := by kernel_rfl
theorem sz142 : (Tryd.prog.info? 142).map (·.size) = some 64 := by kernel_rfl
theorem ze85 : ZeS Tryd.prog 85 [(1, .slice none 0 0), (1, .slice none 0 0)] := ⟨.agg _, ZeT.mk' (by kernel_rfl), rfl⟩
theorem ze142 : ZeS Tryd.prog 142 [(32, hv zeroH), (32, hv zeroH)] := ⟨.agg _, ZeT.mk' (by kernel_rfl), rfl⟩
end Coll2
open Go.Proofs.YtalnkhgonfcabaaDoor.Coll2

set_option maxRecDepth 100000 in
theorem grow_any (n : Nat) (w0 : World) (hn : n ≤ 1099511627776) :
    Calls Tryd.prog 153 #[.slice none 0 0, .int .i64 (n : Int)] w0 fun e w' => ∃ a c, e = .returned (.slice a 0 c) ∧ St [] w0 [] [⟨5, 1, a, 0, c, []⟩] w' := by
  refine calls_st (F := []) (args := [.slice none 0 0, .int .i64 (n : Int)]) Tryd.func153 rfl (n := 27) rfl rfl ?_
  intro ac w HF HS
  refine wp_seq ?_
  refine wp_region_lit ?_
  refine sx_y HF HS (yl_assign rfl) rfl rfl ?_; clear HF ac; intro ac HF
  refine wpList_nil ?_
  refine then_n ?_
  refine wp_seq ?_
  refine wp_seq ?_
  refine wp_region_lit ?_
  refine sx_y HF HS (yl_move rfl) rfl rfl ?_; clear HF ac; intro ac HF
  refine sx_y HF HS (yl_lss rfl rfl (decide_eq_false (by omega))) rfl rfl ?_; clear HF ac; intro ac HF
  refine wpList_nil ?_
  refine then_n ?_
  refine cx_false HF rfl ?_
  refine wp_skip ?_
  refine then_n ?_
  refine wp_seq ?_
  refine wp_seq ?_
  refine wp_region_lit ?_
  refine sx_y HF HS (yl_move rfl) rfl rfl ?_; clear HF ac; intro ac HF
  refine sx_y HF HS (yl_move rfl) rfl rfl ?_; clear HF ac; intro ac HF
  refine sx_y HF HS (yl_cap Tryd.underlying39 rfl) rfl rfl ?_; clear HF ac; intro ac HF
  refine sx_y HF HS (yl_move rfl) rfl rfl ?_; clear HF ac; intro ac HF
  refine sx_y HF HS (yl_len_slice Tryd.underlying39 rfl) rfl rfl ?_; clear HF ac; intro ac HF
  refine sx_y HF HS (yl_sub64 (r := (0 : Int)) rfl rfl (by omega) (by omega)) rfl rfl ?_; clear HF ac; intro ac HF
  refine sx_y HF HS (yl_sub64 (r := (n : Int)) rfl rfl (by omega) (by omega)) rfl rfl ?_; clear HF ac; intro ac HF
  refine sx_y HF HS (yl_assign rfl) rfl rfl ?_; clear HF ac; intro ac HF
  refine wpList_nil ?_
  refine then_n ?_
  refine wp_seq ?_
  refine wp_region_lit ?_
  refine sx_y HF HS (yl_move rfl) rfl rfl ?_; clear HF ac; intro ac HF
  refine sx_dec HF HS (yl_gtr rfl rfl rfl) rfl rfl ?_ ?_ <;> clear HF ac <;> intro h4x1 ac HF
  · refine wpList_nil ?_
    refine then_n ?_
    refine cx_true HF rfl ?_
    refine wp_region_lit ?_
    refine sx_y HF HS (yl_move rfl) rfl rfl ?_; clear HF ac; intro ac HF
    refine sx_y HF HS (yl_move rfl) rfl rfl ?_; clear HF ac; intro ac HF
    refine sx_y HF HS (yl_cap Tryd.underlying39 rfl) rfl rfl ?_; clear HF ac; intro ac HF
    refine sx_y HF HS (sl_hi (r := 0) Tryd.underlying39 sz5 rfl rfl (by omega) rfl) rfl rfl ?_; clear HF ac; intro ac HF
    refine sx_y HF HS (yl_move rfl) rfl rfl ?_; clear HF ac; intro ac HF
    replace HS := HS.nilRow 5 1
    have hn0 : 0 < n := by omega
    refine sx_ef HF (ef_zeros HS sl39 Tryd.underlying3 rfl rfl (by omega) (by omega)) rfl rfl ?_; clear HF HS ac; rintro _ w ac ⟨a22, c22, rfl, HS⟩ HF
    refine sx_y HF HS (yl_move rfl) rfl rfl ?_; clear HF ac; intro ac HF
    refine sx_y HF HS (yl_len_slice Tryd.underlying39 rfl) rfl rfl ?_; clear HF ac; intro ac HF
    refine sx_y HF HS (sl_hi (k := 0) (r := 0) Tryd.underlying39 sz5 rfl rfl (by omega) rfl) rfl rfl ?_; clear HF ac; intro ac HF
    replace HS := HS.cutRow (e := 5) (size := 1) (a := a22) (c := c22) (n := n) (m := 0) (Nat.zero_le _) (ys := []) (by simp)
    refine sx_y HF HS (yl_assign rfl) rfl rfl ?_; clear HF ac; intro ac HF
    refine wpList_nil ?_
    refine then_n ?_
    refine wp_seq ?_
    refine wp_region_lit ?_
    refine sx_y HF HS (yl_move rfl) rfl rfl ?_; clear HF ac; intro ac HF
    refine sx_y HF HS (yl_assign rfl) rfl rfl ?_; clear HF ac; intro ac HF
    refine wpList_nil ?_
    refine then_n ?_
    refine wp_ret ?_
    exact rt1 rfl HF HS rfl ⟨_, _, rfl, HS⟩
  · refine wpList_nil ?_
    refine then_n ?_
    refine cx_false HF rfl ?_
    refine wp_skip ?_
    refine then_n ?_
    refine wp_seq ?_
    refine wp_region_lit ?_
    refine sx_y HF HS (yl_move rfl) rfl rfl ?_; clear HF ac; intro ac HF
    refine sx_y HF HS (yl_assign rfl) rfl rfl ?_; clear HF ac; intro ac HF
    refine wpList_nil ?_
    refine then_n ?_
    refine wp_ret ?_
    exact rt1 rfl HF HS rfl ⟨_, _, rfl, HS.nilRow 5 1⟩

set_option maxRecDepth 100000 in
theorem concat_any (l : List Pt) (a : Option Addr) (c : Nat) (w0 : World) (hr : Rd w0 a l.length c 1 (pts l)) (hp : ∀ p ∈ l, Rd w0 p.a p.l.length p.c 1 (bcs p.l)) (ht : (flatB l).length ≤ 1099511627776) :
    Calls Tryd.prog 149 #[.slice a l.length c] w0 fun e w' => ∃ a1 c1, e = .returned (.slice a1 (flatB l).length c1) ∧ St [] w0 [] [⟨5, 1, a1, (flatB l).length, c1, bcs (flatB l)⟩] w' := by
  refine calls_st (F := []) (args := [.slice a l.length c]) Tryd.func149 rfl (n := 36) rfl rfl ?_
  intro ac w HF HS
  refine wp_seq ?_
  refine wp_region_lit ?_
  refine sx_y HF HS (yl_assign rfl) rfl rfl ?_; clear HF ac; intro ac HF
  refine wpList_nil ?_
  refine then_n ?_
  refine wp_seq ?_
  refine wp_region_lit ?_
  refine sx_y HF HS (yl_assign rfl) rfl rfl ?_; clear HF ac; intro ac HF
  refine wpList_nil ?_
  refine then_n ?_
  refine wp_seq ?_
  refine wp_seq ?_
  refine wp_region_lit ?_
  refine sx_y HF HS (yl_move rfl) rfl rfl ?_; clear HF ac; intro ac HF
  refine sx_y HF HS (yl_len_slice Tryd.underlying61 rfl) rfl rfl ?_; clear HF ac; intro ac HF
  refine sx_y HF HS (yl_move rfl) rfl rfl ?_; clear HF ac; intro ac HF
  refine wpList_nil ?_
  refine then_n ?_
  refine wp_block ?_
  replace HF := HF.sub (m' := [(0, _), (2, _), (9, _), (10, _), (11, _), (3, _)]) (by repeat (first | exact ag_nil | refine ag_cons rfl ?_))
  refine cx_loop (m := [(0, _), (2, _), (9, _), (10, _)]) (HF.sub (by repeat (first | exact ag_nil | refine ag_cons rfl ?_))) (fun m d ac w => ∃ k : Nat, k ≤ l.length ∧ d = l.length - k ∧ Fr ([(11, .int .i64 (k : Int)), (3, .int .i64 (((flatB (l.take k)).length : Nat) : Int))] ++ m) 36 ac ∧ St [] w0 [] [] w) ?_ ?_
  · exact ⟨_, 0, Nat.zero_le _, rfl, HF.sub (by repeat (first | exact ag_nil | refine ag_cons rfl ?_)), HS⟩
  · clear HF HS ac w
    rintro d ac w ⟨k, hk, rfl, HF, HS⟩
    refine wp_seq ?_
    refine wp_region_lit ?_
    refine sx_dec HF HS (yl_lss rfl rfl rfl) rfl rfl ?_ ?_ <;> clear HF ac <;> intro h3x0 ac HF
    · have hkl : k < l.length := by omega
      have hbv := pts_at l k hkl
      have hle := flatB_take_le l (k + 1)
      have hpk := hp _ (List.getElem_mem hkl)
      have hft := flatB_take l k hkl
      have hft2 : (flatB (l.take (k + 1))).length = (flatB (l.take k)).length + l[k].l.length := by rw [hft, List.length_append]
      have hlim := hr.lim
      refine wpList_nil ?_
      refine then_n ?_
      refine wp_seq ?_
      refine cx_true HF rfl ?_
      refine wp_skip ?_
      refine then_n ?_
      refine wp_seq ?_
      refine wp_block ?_
      refine wp_seq ?_
      refine wp_region_lit ?_
      refine sx_y HF HS (ix_sl Tryd.underlying61 sz39 rfl rfl (by omega) hr.nil0) rfl rfl ?_; clear HF ac; intro ac HF
      refine sx_y HF HS (ld_elC sc39 rfl hbv (fun w h => hr.below h.kp)) rfl rfl ?_; clear HF ac; intro ac HF
      refine sx_y HF HS (yl_assign rfl) rfl rfl ?_; clear HF ac; intro ac HF
      refine wpList_nil ?_
      refine then_n ?_
      refine wp_seq ?_
      refine wp_region_lit ?_
      refine sx_y HF HS (yl_move rfl) rfl rfl ?_; clear HF ac; intro ac HF
      refine sx_y HF HS (yl_move rfl) rfl rfl ?_; clear HF ac; intro ac HF
      refine sx_y HF HS (yl_len_slice Tryd.underlying39 rfl) rfl rfl ?_; clear HF ac; intro ac HF
      refine sx_y HF HS (yl_add64 (r := (((flatB (l.take (k + 1))).length : Nat) : Int)) rfl rfl (by omega) (by omega)) rfl rfl ?_; clear HF ac; intro ac HF
      refine sx_y HF HS (yl_assign rfl) rfl rfl ?_; clear HF ac; intro ac HF
      refine wpList_nil ?_
      refine then_n ?_
      refine wp_seq ?_
      refine wp_region_lit ?_
      refine sx_y HF HS (yl_move rfl) rfl rfl ?_; clear HF ac; intro ac HF
      refine sx_y HF HS (yl_lss rfl rfl (decide_eq_false (by omega))) rfl rfl ?_; clear HF ac; intro ac HF
      refine wpList_nil ?_
      refine then_n ?_
      refine cx_false HF rfl ?_
      refine wp_skip ?_
      refine blk_n ?_
      refine then_n ?_
      refine wp_region_lit ?_
      refine sx_y HF HS (yl_add64 (r := ((k + 1 : Nat) : Int)) rfl rfl (by omega) (by omega)) rfl rfl ?_; clear HF ac; intro ac HF
      refine sx_y HF HS (yl_move rfl) rfl rfl ?_; clear HF ac; intro ac HF
      refine wpList_nil ?_
      refine then_n ?_
      refine ⟨_, ?_, k + 1, by omega, rfl, HF.sub (by repeat (first | exact ag_nil | refine ag_cons rfl ?_)), HS⟩
      omega
    · obtain rfl : k = l.length := by omega
      rw [List.take_length] at HF
      refine wpList_nil ?_
      refine then_n ?_
      refine wp_seq ?_
      refine cx_false HF rfl ?_
      refine wp_exit ?_
      refine then_x ?_
      refine then_x ?_
      refine blk_hit ?_
      refine then_n ?_
      refine wp_seq ?_
      refine wp_region_lit ?_
      refine sx_y HF HS (yl_move rfl) rfl rfl ?_; clear HF ac; intro ac HF
      refine sx_call HF Tryd.func153 (by kernel_rfl) (by kernel_rfl) (evs_cons rfl (evs_cons rfl evs_nil)) (grow_any (flatB l).length w ht) rfl rfl ?_; clear HF ac
      rintro _ w ⟨a6, c6, rfl, k1⟩
      refine ⟨_, rfl, fun ac HF => ?_⟩
      replace HS := HS.joinR1 k1
      clear k1
      refine sx_y HF HS (yl_assign rfl) rfl rfl ?_; clear HF ac; intro ac HF
      refine wpList_nil ?_
      refine then_n ?_
      refine wp_seq ?_
      refine wp_seq ?_
      refine wp_region_lit ?_
      refine sx_y HF HS (yl_move rfl) rfl rfl ?_; clear HF ac; intro ac HF
      refine sx_y HF HS (yl_len_slice Tryd.underlying61 rfl) rfl rfl ?_; clear HF ac; intro ac HF
      refine sx_y HF HS (yl_move rfl) rfl rfl ?_; clear HF ac; intro ac HF
      refine wpList_nil ?_
      refine then_n ?_
      refine wp_block ?_
      replace HF := HF.sub (m' := [(2, _), (25, _), (26, _), (27, _), (6, _)]) (by repeat (first | exact ag_nil | refine ag_cons rfl ?_))
      refine cx_loop (m := [(2, _), (25, _), (26, _)]) (HF.sub (by repeat (first | exact ag_nil | refine ag_cons rfl ?_))) (fun m d ac w => ∃ (k : Nat) (a6 : Option Addr) (c6 : Nat), k ≤ l.length ∧ d = l.length - k ∧ Fr ([(27, .int .i64 (k : Int)), (6, .slice a6 (flatB (l.take k)).length c6)] ++ m) 36 ac ∧ St [] w0 [] [⟨5, 1, a6, (flatB (l.take k)).length, c6, bcs (flatB (l.take k))⟩] w) ?_ ?_
      · exact ⟨_, 0, a6, c6, Nat.zero_le _, rfl, HF.sub (by repeat (first | exact ag_nil | refine ag_cons rfl ?_)), HS⟩
      · clear HF HS ac w
        rintro d ac w ⟨k, a6, c6, hk, rfl, HF, HS⟩
        refine wp_seq ?_
        refine wp_region_lit ?_
        refine sx_dec HF HS (yl_lss rfl rfl rfl) rfl rfl ?_ ?_ <;> clear HF ac <;> intro h11x0 ac HF
        · have hkl : k < l.length := by omega
          have hbv := pts_at l k hkl
          have hle := flatB_take_le l (k + 1)
          have hpk := hp _ (List.getElem_mem hkl)
          have hft := flatB_take l k hkl
          have hft2 : (flatB (l.take (k + 1))).length = (flatB (l.take k)).length + l[k].l.length := by rw [hft, List.length_append]
          have hlim := hr.lim
          refine wpList_nil ?_
          refine then_n ?_
          refine wp_seq ?_
          refine cx_true HF rfl ?_
          refine wp_skip ?_
          refine then_n ?_
          refine wp_seq ?_
          refine wp_block ?_
          refine wp_seq ?_
          refine wp_region_lit ?_
          refine sx_y HF HS (ix_sl Tryd.underlying61 sz39 rfl rfl (by omega) hr.nil0) rfl rfl ?_; clear HF ac; intro ac HF
          refine sx_y HF HS (ld_elC sc39 rfl hbv (fun w h => hr.below h.kp)) rfl rfl ?_; clear HF ac; intro ac HF
          refine sx_y HF HS (yl_assign rfl) rfl rfl ?_; clear HF ac; intro ac HF
          refine wpList_nil ?_
          refine then_n ?_
          refine wp_region_lit ?_
          refine sx_y HF HS (yl_move rfl) rfl rfl ?_; clear HF ac; intro ac HF
          refine sx_y HF HS (yl_move rfl) rfl rfl ?_; clear HF ac; intro ac HF
          refine sx_ef HF (ef_append (n' := (flatB (l.take (k + 1))).length) (ys := bcs (flatB (l.take (k + 1)))) HS sl39 rfl rfl (hpk.below HS.kp) (bcs_one _) hft2.symm (by omega) (by rw [hft, bcs_app])) rfl rfl ?_; clear HF HS ac; rintro _ w ac ⟨a33, c33, rfl, HS⟩ HF
          refine sx_y HF HS (yl_assign rfl) rfl rfl ?_; clear HF ac; intro ac HF
          refine wpList_nil ?_
          refine blk_n ?_
          refine then_n ?_
          refine wp_region_lit ?_
          refine sx_y HF HS (yl_add64 (r := ((k + 1 : Nat) : Int)) rfl rfl (by omega) (by omega)) rfl rfl ?_; clear HF ac; intro ac HF
          refine sx_y HF HS (yl_move rfl) rfl rfl ?_; clear HF ac; intro ac HF
          refine wpList_nil ?_
          refine then_n ?_
          refine ⟨_, ?_, k + 1, _, _, by omega, rfl, HF.sub (by repeat (first | exact ag_nil | refine ag_cons rfl ?_)), HS⟩
          omega
        · obtain rfl : k = l.length := by omega
          rw [List.take_length] at HF HS
          refine wpList_nil ?_
          refine then_n ?_
          refine wp_seq ?_
          refine cx_false HF rfl ?_
          refine wp_exit ?_
          refine then_x ?_
          refine then_x ?_
          refine blk_hit ?_
          refine then_n ?_
          refine wp_seq ?_
          refine wp_region_lit ?_
          refine sx_y HF HS (yl_move rfl) rfl rfl ?_; clear HF ac; intro ac HF
          refine sx_y HF HS (yl_assign rfl) rfl rfl ?_; clear HF ac; intro ac HF
          refine wpList_nil ?_
          refine then_n ?_
          refine wp_ret ?_
          exact rt1 rfl HF HS rfl ⟨_, _, rfl, HS⟩

set_option maxRecDepth 100000 in
theorem input_any (b : UInt8) (l : List Pt) (a : Option Addr) (c : Nat) (w0 : World) (hr : Rd w0 a l.length c 1 (pts l)) (hp : ∀ p ∈ l, Rd w0 p.a p.l.length p.c 1 (bcs p.l)) (ht : (flatB l).length ≤ 1099511627775) :
    Calls Tryd.prog 134 #[.int .i64 (b.toNat : Int), .slice a l.length c] w0 fun e w' => ∃ a1 c1, e = .returned (.slice a1 (b :: flatB l).length c1) ∧ St [] w0 [] [⟨5, 1, a1, (b :: flatB l).length, c1, bcs (b :: flatB l)⟩] w' := by
  refine calls_st (F := []) (args := [.int .i64 (b.toNat : Int), .slice a l.length c]) Tryd.func134 rfl (n := 11) rfl rfl ?_
  intro ac w HF HS
  refine wp_seq ?_
  refine wp_region_lit ?_
  refine sx_y HF HS (yl_assign rfl) rfl rfl ?_; clear HF ac; intro ac HF
  refine wpList_nil ?_
  refine then_n ?_
  refine wp_seq ?_
  refine wp_region_lit ?_
  refine sx_y HF HS (yl_move rfl) rfl rfl ?_; clear HF ac; intro ac HF
  refine sx_y HF HS ((yl_iconv rfl (by kernel_rfl) Tryd.underlying5).to (u := bcell b) (by rw [bcell, IntWalk.u8_in _ (by have := b.toNat_lt; omega)])) rfl rfl ?_; clear HF ac; intro ac HF
  refine sx_ef HF (ef_lit (n := 1) HS sl39 (parts := #[(0, .tmp 6)]) (evs_cons rfl evs_nil) rfl rfl (s := [(1, _)]) rfl (by simp)) rfl rfl ?_; clear HF HS ac; rintro _ w ac ⟨g7, rfl, HS⟩ HF
  replace HS := HS.toRow (n := 1) (size := 1) rfl (by decide) (ys := bcs [b]) (by simp [sgL, bcs, Value.cells, bcell])
  refine sx_y HF HS (yl_move rfl) rfl rfl ?_; clear HF ac; intro ac HF
  refine sx_call HF Tryd.func149 (by kernel_rfl) (by kernel_rfl) (evs_cons rfl evs_nil) (concat_any l a c w (hr.below HS.kp) (fun p hm => (hp p hm).below HS.kp) (by omega)) rfl rfl ?_; clear HF ac
  rintro _ w ⟨a9, c9, rfl, k1⟩
  refine ⟨_, rfl, fun ac HF => ?_⟩
  replace HS := HS.joinR1 k1
  clear k1
  refine sx_ef HF (ef_append (n := 1) (n' := (b :: flatB l).length) (ys := bcs (b :: flatB l)) HS sl39 rfl rfl HS.row0 (bcs_one _) (by simp; omega) (by simp; omega) (by simp [bcs])) rfl rfl ?_; clear HF HS ac; rintro _ w ac ⟨a10, c10, rfl, HS⟩ HF
  refine sx_y HF HS (yl_assign rfl) rfl rfl ?_; clear HF ac; intro ac HF
  refine wpList_nil ?_
  refine then_n ?_
  refine wp_ret ?_
  exact rt1 rfl HF HS rfl ⟨_, _, rfl, HS.r1⟩

theorem hv2 (_x _y : Hsh) : True := trivial
/-- An array of two hashes. -/
abbrev h2S (x y : Hsh) : List (Nat × Value) := [(32, hv x), (32, hv y)]

set_option maxRecDepth 100000 in
theorem halves_any (l : List Hsh) (a : Option Addr) (c : Nat) (w0 : World) (hr : Rd w0 a l.length c 32 (hsc l)) (hl : 2 ≤ l.length) (hL : Laid w0) (h2 : 4 ≤ w0.heap.size) :
    Calls Tryd.prog 102 #[.slice a l.length c] w0 fun e w' => e = .returned (.agg (sgA (h2S (rootH (l.take (sp l.length))) (rootH (l.drop (sp l.length)))))) ∧ Kp [] w0 w' := by
  have hlim := hr.lim
  obtain ⟨_, _, hs1, hs2, hs3⟩ := sp_spec l.length hl (by omega)
  refine calls_st (F := []) (args := [.slice a l.length c]) Tryd.func102 rfl (n := 16) rfl rfl ?_
  intro ac w HF HS
  refine wp_seq ?_
  refine wp_region_lit ?_
  refine sx_ef HF (ef_alloc HS ze142) rfl rfl ?_; clear HF HS ac; rintro _ w ac ⟨g2, rfl, HS⟩ HF
  refine wpList_nil ?_
  refine then_n ?_
  refine wp_seq ?_
  refine wp_region_lit ?_
  refine sx_y HF HS (yl_move rfl) rfl rfl ?_; clear HF ac; intro ac HF
  refine sx_y HF HS (yl_len_slice Tryd.underlying22 rfl) rfl rfl ?_; clear HF ac; intro ac HF
  refine sx_call HF Tryd.func101 (by kernel_rfl) (by kernel_rfl) (evs_cons rfl evs_nil) (split_any l.length w hl (by omega)) rfl rfl ?_; clear HF ac
  rintro _ w ⟨rfl, rfl⟩
  refine ⟨_, rfl, fun ac HF => ?_⟩
  refine sx_y HF HS (yl_assign rfl) rfl rfl ?_; clear HF ac; intro ac HF
  refine wpList_nil ?_
  refine then_n ?_
  refine wp_seq ?_
  refine dx_region 9 (by kernel_rfl) HS.drew (fun _ h => h) ?_; clear HS; intro w HS
  have HH := HS
  refine dx_p (i := 0) HF rfl (by kernel_rfl) (by kernel_rfl) (by kernel_rfl) (by decide) (fun _ _ _ h => h) (fun _ => HH) (yl_move rfl) rfl rfl ?_; clear HF ac; intro ac HF
  refine dx_p (i := 1) HF rfl (by kernel_rfl) (by kernel_rfl) (by kernel_rfl) (by decide) (fun _ _ _ h => h) (fun _ => HH) (yl_move rfl) rfl rfl ?_; clear HF ac; intro ac HF
  refine dx_p (i := 2) HF rfl (by kernel_rfl) (by kernel_rfl) (by kernel_rfl) (by decide) (fun _ _ _ h => h) (fun _ => HH) (sl_hi (r := (l.take (sp l.length)).length) Tryd.underlying22 sz33 rfl rfl (by omega) (by rw [List.length_take]; omega)) rfl rfl ?_; clear HF ac; intro ac HF
  refine dx_p (i := 4) HF rfl (by kernel_rfl) (by kernel_rfl) (by kernel_rfl) (by decide) (fun _ _ _ h => h) (fun _ => HH) (yl_move rfl) rfl rfl ?_; clear HF ac; intro ac HF
  refine dx_p (i := 5) HF rfl (by kernel_rfl) (by kernel_rfl) (by kernel_rfl) (by decide) (fun _ _ _ h => h) (fun _ => HH) (yl_move rfl) rfl rfl ?_; clear HF ac; intro ac HF
  refine dx_p (i := 6) HF rfl (by kernel_rfl) (by kernel_rfl) (by kernel_rfl) (by decide) (fun _ _ _ h => h) (fun _ => HH) (sl_lo (r := (l.drop (sp l.length)).length) Tryd.underlying22 sz33 rfl rfl (by omega) (by rw [List.length_drop])) rfl rfl ?_; clear HF ac; intro ac HF
  refine dx_one (i := 3) (by kernel_rfl) ?_
  refine op_call (i := 3) HF rfl Tryd.func60 (by kernel_rfl) (by kernel_rfl) (evs_cons rfl evs_nil) (root_any (l.take (sp l.length)) a c w ((hr.takeH _ (by omega)).below HS.kp) (hL.below HS.kp) (Nat.le_trans h2 HS.kp.size)) rfl rfl ?_; clear HF ac
  rintro _ w ⟨rfl, k1⟩
  refine ⟨_, rfl, fun ac HF => ?_⟩
  replace HH := HH.call k1
  replace HS := HS.call k1
  clear k1
  refine ⟨fun _ => HH, ?_⟩
  refine dx_one (i := 7) (by kernel_rfl) ?_
  refine op_call (i := 7) HF rfl Tryd.func60 (by kernel_rfl) (by kernel_rfl) (evs_cons rfl evs_nil) (root_any (l.drop (sp l.length)) _ _ w ((hr.dropH _ (by omega)).below HS.kp) (hL.below HS.kp) (Nat.le_trans h2 HS.kp.size)) rfl rfl ?_; clear HF ac
  rintro _ w ⟨rfl, k1⟩
  refine ⟨_, rfl, fun ac HF => ?_⟩
  replace HH := HH.call k1
  replace HS := HS.call k1
  clear k1
  refine ⟨fun _ => HH, ?_⟩
  refine dx_p (i := 8) HF rfl (by kernel_rfl) (by kernel_rfl) (by kernel_rfl) (by decide) (fun _ _ _ h => h) (fun _ => HH) (bd_ar (parts := #[(0, .tmp 10), (1, .tmp 14)]) Tryd.underlying142 sz33 ze142 (evs_cons rfl (evs_cons rfl evs_nil)) (pl := [(0, 32), (32, 32)]) (by decide) (inferInstance : SgW [(32, _), (32, _)]) rfl) rfl rfl ?_; clear HF ac; intro ac HF
  refine dx_one (i := 9) (by kernel_rfl) ?_
  refine op_ef0 (i := 9) HF rfl rfl (ef_stores HS sz142 rfl rfl rfl rfl) ?_; clear HS; rintro _ w HS
  refine ⟨fun h => absurd h (by decide), ?_⟩
  refine dx_done (by kernel_rfl) ?_
  clear HH
  refine then_n ?_
  refine wp_ret ?_
  exact rt1 rfl HF HS ⟨⟨_, rfl⟩, ld_all ag142 rfl rfl⟩ ⟨rfl, HS.kp⟩

theorem input2_any (b : UInt8) (x y : Hsh) (g1 g2 o1 o2 g : Nat) (w : World) (hx : Rd w (some ⟨g1, o1, none⟩) 32 32 1 (bcs x.1)) (hy : Rd w (some ⟨g2, o2, none⟩) 32 32 1 (bcs y.1)) (hr : Rd w (some ⟨g, 0, none⟩) 2 2 1 [.slice (some ⟨g1, o1, none⟩) 32 32, .slice (some ⟨g2, o2, none⟩) 32 32]) :
    Calls Tryd.prog 134 #[.int .i64 (b.toNat : Int), .slice (some ⟨g, 0, none⟩) 2 2] w fun e w' => ∃ a1 c1, e = .returned (.slice a1 (b :: (x.1 ++ y.1)).length c1) ∧ St [] w [] [⟨5, 1, a1, (b :: (x.1 ++ y.1)).length, c1, bcs (b :: (x.1 ++ y.1))⟩] w' := by
  have h := input_any b [⟨some ⟨g1, o1, none⟩, 32, x.1⟩, ⟨some ⟨g2, o2, none⟩, 32, y.1⟩] (some ⟨g, 0, none⟩) 2 w (by simpa [pts, ptV, x.2, y.2] using hr) (by
    intro p hp
    simp only [List.mem_cons, List.not_mem_nil, or_false] at hp
    rcases hp with rfl | rfl
    · simpa [x.2] using hx
    · simpa [y.2] using hy) (by simp [flatB, x.2, y.2])
  simpa [flatB] using h
theorem input1_any (b : UInt8) (xs : List UInt8) (a : Option Addr) (c g : Nat) (w : World) (hx : Rd w a xs.length c 1 (bcs xs)) (hr : Rd w (some ⟨g, 0, none⟩) 1 1 1 [.slice a xs.length c]) (hl : xs.length ≤ 1099511627775) :
    Calls Tryd.prog 134 #[.int .i64 (b.toNat : Int), .slice (some ⟨g, 0, none⟩) 1 1] w fun e w' => ∃ a1 c1, e = .returned (.slice a1 (b :: xs).length c1) ∧ St [] w [] [⟨5, 1, a1, (b :: xs).length, c1, bcs (b :: xs)⟩] w' := by
  have h := input_any b [⟨a, c, xs⟩] (some ⟨g, 0, none⟩) 1 w (by simpa [pts, ptV] using hr) (by
    intro p hp
    simp only [List.mem_cons, List.not_mem_nil, or_false] at hp
    rcases hp with rfl
    exact hx) (by simpa [flatB] using hl)
  simpa [flatB] using h

theorem St.rdLit {F : List Nat} {w0 w : World} {L : List Bk} {R : List Rw} {g : Nat} {s : List (Nat × Value)} {bt : TypeId} {put : List (Nat × Value) → List Bk} (hS : St F w0 L R w) [hb : FindB g L s bt put] [hw : SgW s] {k size : Nat} (hk : sgN s = k * size) (hm : k ≤ 9223372036854775807) : Rd w (some ⟨g, 0, none⟩) k k size (sgL s) := rd_sg hS hk hm

set_option maxRecDepth 100000 in
theorem nodes_any (p q r s : Hsh) (w0 : World) (hL : Laid w0) (h2 : 4 ≤ w0.heap.size) :
    Calls Tryd.prog 104 #[.agg (sgA (h2S p q)), .agg (sgA (h2S r s))] w0 fun e w' => ∃ a12 c12 a18 c18, e = .returned (.tuple #[.agg (sgA (coS a12 (1 :: (p.1 ++ q.1)).length c12 a18 (1 :: (r.1 ++ s.1)).length c18)), .bool (rightB (1 :: (p.1 ++ q.1)) (1 :: (r.1 ++ s.1)))]) ∧ St [] w0 [] [⟨5, 1, a18, (1 :: (r.1 ++ s.1)).length, c18, bcs (1 :: (r.1 ++ s.1))⟩, ⟨5, 1, a12, (1 :: (p.1 ++ q.1)).length, c12, bcs (1 :: (p.1 ++ q.1))⟩] w' := by
  refine calls_st (F := []) (args := [.agg (sgA (h2S p q)), .agg (sgA (h2S r s))]) Tryd.func104 rfl (n := 23) rfl rfl ?_
  intro ac w HF HS
  refine wp_seq ?_
  refine wp_region_lit ?_
  refine sx_ef HF (ef_boxs HS rfl) rfl rfl ?_; clear HF HS ac; rintro _ w ac ⟨g2, rfl, HS⟩ HF
  refine sx_ef HF (ef_boxs HS rfl) rfl rfl ?_; clear HF HS ac; rintro _ w ac ⟨g3, rfl, HS⟩ HF
  refine sx_ef HF (ef_alloc HS ze85) rfl rfl ?_; clear HF HS ac; rintro _ w ac ⟨g4, rfl, HS⟩ HF
  refine sx_y HF HS (yl_assign rfl) rfl rfl ?_; clear HF ac; intro ac HF
  refine wpList_nil ?_
  refine then_n ?_
  refine wp_seq ?_
  replace HF := HF.sub (m' := [(2, _), (3, _), (4, _), (5, _)]) (by repeat (first | exact ag_nil | refine ag_cons rfl ?_))
  refine dx_join HF HS (fun m L R ac w => ∃ g6 g11 g17 a12 c12 a18 c18, Fr ([(6, .pointer (some ⟨g6, 0, none⟩))] ++ m) 23 ac ∧ St [] w0 (⟨g17, sgA [(1, .slice (some ⟨g3, 0, none⟩) 32 32), (1, .slice (some ⟨g3, 32, none⟩) 32 32)], 39⟩ :: ⟨g11, sgA [(1, .slice (some ⟨g2, 0, none⟩) 32 32), (1, .slice (some ⟨g2, 32, none⟩) 32 32)], 39⟩ :: ⟨g6, sgA (coS a12 (1 :: (p.1 ++ q.1)).length c12 a18 (1 :: (r.1 ++ s.1)).length c18), 85⟩ :: L) (⟨5, 1, a18, (1 :: (r.1 ++ s.1)).length, c18, bcs (1 :: (r.1 ++ s.1))⟩ :: ⟨5, 1, a12, (1 :: (p.1 ++ q.1)).length, c12, bcs (1 :: (p.1 ++ q.1))⟩ :: R) w) ?_ ?_
  · clear HF HS ac w
    rintro ac w ⟨g6, g11, g17, a12, c12, a18, c18, HF, HS⟩
    refine then_n ?_
    refine wp_seq ?_
    refine dx_region 5 (by kernel_rfl) HS.drew (fun _ h => h.sub (List.Sublist.cons_cons _ (List.Sublist.cons_cons _ (List.Sublist.cons_cons _ (List.Sublist.cons _ (List.Sublist.cons_cons _ (List.Sublist.cons_cons _ List.Sublist.slnil)))))) (List.Sublist.refl _)) ?_; clear HS; intro w HS
    have HH := HS.sub (List.Sublist.cons_cons _ (List.Sublist.cons_cons _ (List.Sublist.cons_cons _ (List.Sublist.cons _ (List.Sublist.cons_cons _ (List.Sublist.cons_cons _ List.Sublist.slnil)))))) (List.Sublist.refl _)
    refine dx_k (i := 0) HF rfl (by kernel_rfl) (by kernel_rfl) (by kernel_rfl) (by kernel_rfl) (by kernel_rfl) (fun _ _ _ h => h) HH (ld_all ag85 rfl rfl) rfl rfl ?_; clear HF ac; intro ac HF
    refine dx_k (i := 1) HF rfl (by kernel_rfl) (by kernel_rfl) (by kernel_rfl) (by kernel_rfl) (by kernel_rfl) (fun _ _ _ h => h) HH (ld_all ag85 rfl rfl) rfl rfl ?_; clear HF ac; intro ac HF
    refine dx_one (i := 2) (by kernel_rfl) ?_
    refine op_call (i := 2) HF rfl Tryd.func135 (by kernel_rfl) (by kernel_rfl) (evs_cons rfl evs_nil) (right_any (1 :: (p.1 ++ q.1)) (1 :: (r.1 ++ s.1)) a12 a18 c12 c18 w HS.row1 HS.row0 (hL.below HS.kp) (Nat.le_trans h2 HS.kp.size)) rfl rfl ?_; clear HF ac
    rintro _ w ⟨rfl, k1⟩
    refine ⟨_, rfl, fun ac HF => ?_⟩
    replace HH := HH.call k1
    replace HS := HS.call k1
    clear k1
    refine ⟨fun _ => HH, ?_⟩
    refine dx_one (i := 3) (by kernel_rfl) ?_
    refine op_ef0 (i := 3) HF rfl rfl (ef_stores HS sz85 rfl rfl rfl rfl) ?_; clear HS; rintro _ w HS
    replace HH := HS.sub (List.Sublist.cons_cons _ (List.Sublist.cons_cons _ (List.Sublist.cons_cons _ (List.Sublist.cons _ (List.Sublist.cons_cons _ (List.Sublist.cons_cons _ List.Sublist.slnil)))))) (List.Sublist.refl _)
    refine ⟨fun _ => HH, ?_⟩
    refine dx_p (i := 4) HF rfl (by kernel_rfl) (by kernel_rfl) (by kernel_rfl) (by decide) (fun _ _ _ h => h) (fun _ => HH) (yl_assign rfl) rfl rfl ?_; clear HF ac; intro ac HF
    refine dx_done (by kernel_rfl) ?_
    clear HH
    refine then_n ?_
    refine wp_ret ?_
    exact rt2 rfl HF HS ⟨⟨_, rfl⟩, ld_all ag85 rfl rfl⟩ rfl ⟨_, _, _, _, rfl, HS.sub (List.nil_sublist _) (List.Sublist.refl _)⟩
  · intro J
    refine dx_region 15 (by kernel_rfl) HS.drew (fun _ h => h) ?_; clear HS; intro w HS
    have HH := HS
    refine dx_p (i := 0) HF rfl (by kernel_rfl) (by kernel_rfl) (by kernel_rfl) (by decide) (fun _ _ _ h => h) (fun _ => HH) (ix_ar (k := 0) Tryd.underlying142 sz33 rfl rfl (by omega) rfl) rfl rfl ?_; clear HF ac; intro ac HF
    refine dx_p (i := 1) HF rfl (by kernel_rfl) (by kernel_rfl) (by kernel_rfl) (by decide) (fun _ _ _ h => h) (fun _ => HH) (sl_arr Tryd.underlying33 (by kernel_rfl) (by decide) rfl) rfl rfl ?_; clear HF ac; intro ac HF
    refine dx_p (i := 2) HF rfl (by kernel_rfl) (by kernel_rfl) (by kernel_rfl) (by decide) (fun _ _ _ h => h) (fun _ => HH) (ix_ar (k := 1) Tryd.underlying142 sz33 rfl rfl (by omega) rfl) rfl rfl ?_; clear HF ac; intro ac HF
    refine dx_p (i := 3) HF rfl (by kernel_rfl) (by kernel_rfl) (by kernel_rfl) (by decide) (fun _ _ _ h => h) (fun _ => HH) (sl_arr Tryd.underlying33 (by kernel_rfl) (by decide) rfl) rfl rfl ?_; clear HF ac; intro ac HF
    refine dx_p (i := 6) HF rfl (by kernel_rfl) (by kernel_rfl) (by kernel_rfl) (by decide) (fun _ _ _ h => h) (fun _ => HH) (ix_ar (k := 0) Tryd.underlying142 sz33 rfl rfl (by omega) rfl) rfl rfl ?_; clear HF ac; intro ac HF
    refine dx_p (i := 7) HF rfl (by kernel_rfl) (by kernel_rfl) (by kernel_rfl) (by decide) (fun _ _ _ h => h) (fun _ => HH) (sl_arr Tryd.underlying33 (by kernel_rfl) (by decide) rfl) rfl rfl ?_; clear HF ac; intro ac HF
    refine dx_p (i := 8) HF rfl (by kernel_rfl) (by kernel_rfl) (by kernel_rfl) (by decide) (fun _ _ _ h => h) (fun _ => HH) (ix_ar (k := 1) Tryd.underlying142 sz33 rfl rfl (by omega) rfl) rfl rfl ?_; clear HF ac; intro ac HF
    refine dx_p (i := 9) HF rfl (by kernel_rfl) (by kernel_rfl) (by kernel_rfl) (by decide) (fun _ _ _ h => h) (fun _ => HH) (sl_arr Tryd.underlying33 (by kernel_rfl) (by decide) rfl) rfl rfl ?_; clear HF ac; intro ac HF
    refine dx_three (i := 4) (j := 10) (j2 := 13) (by kernel_rfl) ?_ ?_ ?_
    · refine op_ef (i := 4) HF rfl rfl rfl (ef_lit (n := 2) HS sl61 (parts := #[(0, .tmp 8), (1, .tmp 10)]) (evs_cons rfl (evs_cons rfl evs_nil)) rfl rfl (s := [(1, _), (1, _)]) rfl (by simp)) ?_; clear HF HS ac; rintro _ w ac ⟨g11, rfl, HS⟩ HF
      replace HH := HS.d1
      refine ⟨fun _ => HH, ?_⟩
      refine dx_three (i := 5) (j := 10) (j2 := 13) (by kernel_rfl) ?_ ?_ ?_
      · refine op_call (i := 5) HF rfl Tryd.func134 (by kernel_rfl) (by kernel_rfl) (evs_cons rfl (evs_cons rfl evs_nil)) (input2_any 1 p q g2 g2 0 32 g11 w (HS.rdB (g := g2) (off := 0) (s := h2S p q) rfl) (HS.rdB (g := g2) (off := 32) (s := h2S p q) rfl) (by have := HS.rdLit (g := g11) (k := 2) (size := 1) rfl (by decide); simpa [sgL, Value.cells] using this)) rfl rfl ?_; clear HF ac
        rintro _ w ⟨a12, c12, rfl, k1⟩
        refine ⟨_, rfl, fun ac HF => ?_⟩
        replace HH := HH.call k1.kp
        replace HS := HS.joinR1 k1
        clear k1
        refine ⟨fun _ => HH, ?_⟩
        refine dx_two (i := 10) (j := 13) (by kernel_rfl) ?_ ?_
        · refine op_ef (i := 10) HF rfl rfl rfl (ef_lit (n := 2) HS sl61 (parts := #[(0, .tmp 14), (1, .tmp 16)]) (evs_cons rfl (evs_cons rfl evs_nil)) rfl rfl (s := [(1, _), (1, _)]) rfl (by simp)) ?_; clear HF HS ac; rintro _ w ac ⟨g17, rfl, HS⟩ HF
          replace HH := HS.d2.r1
          refine ⟨fun _ => HH, ?_⟩
          refine dx_two (i := 11) (j := 13) (by kernel_rfl) ?_ ?_
          · refine op_call (i := 11) HF rfl Tryd.func134 (by kernel_rfl) (by kernel_rfl) (evs_cons rfl (evs_cons rfl evs_nil)) (input2_any 1 r s g3 g3 0 32 g17 w (HS.rdB (g := g3) (off := 0) (s := h2S r s) rfl) (HS.rdB (g := g3) (off := 32) (s := h2S r s) rfl) (by have := HS.rdLit (g := g17) (k := 2) (size := 1) rfl (by decide); simpa [sgL, Value.cells] using this)) rfl rfl ?_; clear HF ac
            rintro _ w ⟨a18, c18, rfl, k1⟩
            refine ⟨_, rfl, fun ac HF => ?_⟩
            replace HH := HH.call k1.kp
            replace HS := HS.joinR1 k1
            clear k1
            refine ⟨fun _ => HH, ?_⟩
            refine dx_p (i := 12) HF rfl (by kernel_rfl) (by kernel_rfl) (by kernel_rfl) (by decide) (fun _ _ _ h => h) (fun _ => HH) (bd_st (parts := #[(0, .tmp 12), (1, .tmp 18)]) Tryd.underlying85 (by kernel_rfl) ze85 (evs_cons rfl (evs_cons rfl evs_nil)) (pl := [(0, 1), (1, 1)]) (by kernel_rfl) (szs := [1, 1]) rfl (inferInstance : SgW [(1, _), (1, _)]) rfl) rfl rfl ?_; clear HF ac; intro ac HF
            refine dx_one (i := 13) (by kernel_rfl) ?_
            refine op_ef (i := 13) HF rfl rfl rfl (ef_alloc HS ze85) ?_; clear HF HS ac; rintro _ w ac ⟨g6, rfl, HS⟩ HF
            replace HH := HS.d3.r2
            refine ⟨fun _ => HH, ?_⟩
            refine dx_one (i := 14) (by kernel_rfl) ?_
            refine op_ef0 (i := 14) HF rfl rfl (ef_stores HS sz85 rfl rfl rfl rfl) ?_; clear HS; rintro _ w HS
            replace HH := HS.d3.r2
            refine ⟨fun _ => HH, ?_⟩
            refine dx_done (by kernel_rfl) ?_
            exact J _ _ ⟨_, _, _, _, _, _, _, HF.sub (by repeat (first | exact ag_nil | refine ag_cons rfl ?_)), HS.rot⟩
          · refine op_ef (i := 13) HF rfl rfl rfl (ef_alloc HS ze85) ?_; clear HF HS ac; rintro _ w ac ⟨g6, rfl, HS⟩ HF
            replace HH := HS.d3.r1
            refine ⟨fun _ => HH, ?_⟩
            refine dx_one (i := 11) (by kernel_rfl) ?_
            refine op_call (i := 11) HF rfl Tryd.func134 (by kernel_rfl) (by kernel_rfl) (evs_cons rfl (evs_cons rfl evs_nil)) (input2_any 1 r s g3 g3 0 32 g17 w (HS.rdB (g := g3) (off := 0) (s := h2S r s) rfl) (HS.rdB (g := g3) (off := 32) (s := h2S r s) rfl) (by have := HS.rdLit (g := g17) (k := 2) (size := 1) rfl (by decide); simpa [sgL, Value.cells] using this)) rfl rfl ?_; clear HF ac
            rintro _ w ⟨a18, c18, rfl, k1⟩
            refine ⟨_, rfl, fun ac HF => ?_⟩
            replace HH := HH.call k1.kp
            replace HS := HS.joinR1 k1
            clear k1
            refine ⟨fun _ => HH, ?_⟩
            refine dx_p (i := 12) HF rfl (by kernel_rfl) (by kernel_rfl) (by kernel_rfl) (by decide) (fun _ _ _ h => h) (fun _ => HH) (bd_st (parts := #[(0, .tmp 12), (1, .tmp 18)]) Tryd.underlying85 (by kernel_rfl) ze85 (evs_cons rfl (evs_cons rfl evs_nil)) (pl := [(0, 1), (1, 1)]) (by kernel_rfl) (szs := [1, 1]) rfl (inferInstance : SgW [(1, _), (1, _)]) rfl) rfl rfl ?_; clear HF ac; intro ac HF
            refine dx_one (i := 14) (by kernel_rfl) ?_
            refine op_ef0 (i := 14) HF rfl rfl (ef_stores HS sz85 rfl rfl rfl rfl) ?_; clear HS; rintro _ w HS
            replace HH := HS.d3.r2
            refine ⟨fun _ => HH, ?_⟩
            refine dx_done (by kernel_rfl) ?_
            exact J _ _ ⟨_, _, _, _, _, _, _, HF.sub (by repeat (first | exact ag_nil | refine ag_cons rfl ?_)), HS.rot⟩
        · refine op_ef (i := 13) HF rfl rfl rfl (ef_alloc HS ze85) ?_; clear HF HS ac; rintro _ w ac ⟨g6, rfl, HS⟩ HF
          replace HH := HS.d2.r1
          refine ⟨fun _ => HH, ?_⟩
          refine dx_one (i := 10) (by kernel_rfl) ?_
          refine op_ef (i := 10) HF rfl rfl rfl (ef_lit (n := 2) HS sl61 (parts := #[(0, .tmp 14), (1, .tmp 16)]) (evs_cons rfl (evs_cons rfl evs_nil)) rfl rfl (s := [(1, _), (1, _)]) rfl (by simp)) ?_; clear HF HS ac; rintro _ w ac ⟨g17, rfl, HS⟩ HF
          replace HH := HS.d3.r1
          refine ⟨fun _ => HH, ?_⟩
          refine dx_one (i := 11) (by kernel_rfl) ?_
          refine op_call (i := 11) HF rfl Tryd.func134 (by kernel_rfl) (by kernel_rfl) (evs_cons rfl (evs_cons rfl evs_nil)) (input2_any 1 r s g3 g3 0 32 g17 w (HS.rdB (g := g3) (off := 0) (s := h2S r s) rfl) (HS.rdB (g := g3) (off := 32) (s := h2S r s) rfl) (by have := HS.rdLit (g := g17) (k := 2) (size := 1) rfl (by decide); simpa [sgL, Value.cells] using this)) rfl rfl ?_; clear HF ac
          rintro _ w ⟨a18, c18, rfl, k1⟩
          refine ⟨_, rfl, fun ac HF => ?_⟩
          replace HH := HH.call k1.kp
          replace HS := HS.joinR1 k1
          clear k1
          refine ⟨fun _ => HH, ?_⟩
          refine dx_p (i := 12) HF rfl (by kernel_rfl) (by kernel_rfl) (by kernel_rfl) (by decide) (fun _ _ _ h => h) (fun _ => HH) (bd_st (parts := #[(0, .tmp 12), (1, .tmp 18)]) Tryd.underlying85 (by kernel_rfl) ze85 (evs_cons rfl (evs_cons rfl evs_nil)) (pl := [(0, 1), (1, 1)]) (by kernel_rfl) (szs := [1, 1]) rfl (inferInstance : SgW [(1, _), (1, _)]) rfl) rfl rfl ?_; clear HF ac; intro ac HF
          refine dx_one (i := 14) (by kernel_rfl) ?_
          refine op_ef0 (i := 14) HF rfl rfl (ef_stores HS sz85 rfl rfl rfl rfl) ?_; clear HS; rintro _ w HS
          replace HH := HS.d3.r2
          refine ⟨fun _ => HH, ?_⟩
          refine dx_done (by kernel_rfl) ?_
          exact J _ _ ⟨_, _, _, _, _, _, _, HF.sub (by repeat (first | exact ag_nil | refine ag_cons rfl ?_)), HS.swap.rot⟩
      · refine op_ef (i := 10) HF rfl rfl rfl (ef_lit (n := 2) HS sl61 (parts := #[(0, .tmp 14), (1, .tmp 16)]) (evs_cons rfl (evs_cons rfl evs_nil)) rfl rfl (s := [(1, _), (1, _)]) rfl (by simp)) ?_; clear HF HS ac; rintro _ w ac ⟨g17, rfl, HS⟩ HF
        replace HH := HS.d2
        refine ⟨fun _ => HH, ?_⟩
        refine dx_two (i := 5) (j := 13) (by kernel_rfl) ?_ ?_
        · refine op_call (i := 5) HF rfl Tryd.func134 (by kernel_rfl) (by kernel_rfl) (evs_cons rfl (evs_cons rfl evs_nil)) (input2_any 1 p q g2 g2 0 32 g11 w (HS.rdB (g := g2) (off := 0) (s := h2S p q) rfl) (HS.rdB (g := g2) (off := 32) (s := h2S p q) rfl) (by have := HS.rdLit (g := g11) (k := 2) (size := 1) rfl (by decide); simpa [sgL, Value.cells] using this)) rfl rfl ?_; clear HF ac
          rintro _ w ⟨a12, c12, rfl, k1⟩
          refine ⟨_, rfl, fun ac HF => ?_⟩
          replace HH := HH.call k1.kp
          replace HS := HS.joinR1 k1
          clear k1
          refine ⟨fun _ => HH, ?_⟩
          refine dx_two (i := 11) (j := 13) (by kernel_rfl) ?_ ?_
          · refine op_call (i := 11) HF rfl Tryd.func134 (by kernel_rfl) (by kernel_rfl) (evs_cons rfl (evs_cons rfl evs_nil)) (input2_any 1 r s g3 g3 0 32 g17 w (HS.rdB (g := g3) (off := 0) (s := h2S r s) rfl) (HS.rdB (g := g3) (off := 32) (s := h2S r s) rfl) (by have := HS.rdLit (g := g17) (k := 2) (size := 1) rfl (by decide); simpa [sgL, Value.cells] using this)) rfl rfl ?_; clear HF ac
            rintro _ w ⟨a18, c18, rfl, k1⟩
            refine ⟨_, rfl, fun ac HF => ?_⟩
            replace HH := HH.call k1.kp
            replace HS := HS.joinR1 k1
            clear k1
            refine ⟨fun _ => HH, ?_⟩
            refine dx_p (i := 12) HF rfl (by kernel_rfl) (by kernel_rfl) (by kernel_rfl) (by decide) (fun _ _ _ h => h) (fun _ => HH) (bd_st (parts := #[(0, .tmp 12), (1, .tmp 18)]) Tryd.underlying85 (by kernel_rfl) ze85 (evs_cons rfl (evs_cons rfl evs_nil)) (pl := [(0, 1), (1, 1)]) (by kernel_rfl) (szs := [1, 1]) rfl (inferInstance : SgW [(1, _), (1, _)]) rfl) rfl rfl ?_; clear HF ac; intro ac HF
            refine dx_one (i := 13) (by kernel_rfl) ?_
            refine op_ef (i := 13) HF rfl rfl rfl (ef_alloc HS ze85) ?_; clear HF HS ac; rintro _ w ac ⟨g6, rfl, HS⟩ HF
            replace HH := HS.d3.r2
            refine ⟨fun _ => HH, ?_⟩
            refine dx_one (i := 14) (by kernel_rfl) ?_
            refine op_ef0 (i := 14) HF rfl rfl (ef_stores HS sz85 rfl rfl rfl rfl) ?_; clear HS; rintro _ w HS
            replace HH := HS.d3.r2
            refine ⟨fun _ => HH, ?_⟩
            refine dx_done (by kernel_rfl) ?_
            exact J _ _ ⟨_, _, _, _, _, _, _, HF.sub (by repeat (first | exact ag_nil | refine ag_cons rfl ?_)), HS.rot⟩
          · refine op_ef (i := 13) HF rfl rfl rfl (ef_alloc HS ze85) ?_; clear HF HS ac; rintro _ w ac ⟨g6, rfl, HS⟩ HF
            replace HH := HS.d3.r1
            refine ⟨fun _ => HH, ?_⟩
            refine dx_one (i := 11) (by kernel_rfl) ?_
            refine op_call (i := 11) HF rfl Tryd.func134 (by kernel_rfl) (by kernel_rfl) (evs_cons rfl (evs_cons rfl evs_nil)) (input2_any 1 r s g3 g3 0 32 g17 w (HS.rdB (g := g3) (off := 0) (s := h2S r s) rfl) (HS.rdB (g := g3) (off := 32) (s := h2S r s) rfl) (by have := HS.rdLit (g := g17) (k := 2) (size := 1) rfl (by decide); simpa [sgL, Value.cells] using this)) rfl rfl ?_; clear HF ac
            rintro _ w ⟨a18, c18, rfl, k1⟩
            refine ⟨_, rfl, fun ac HF => ?_⟩
            replace HH := HH.call k1.kp
            replace HS := HS.joinR1 k1
            clear k1
            refine ⟨fun _ => HH, ?_⟩
            refine dx_p (i := 12) HF rfl (by kernel_rfl) (by kernel_rfl) (by kernel_rfl) (by decide) (fun _ _ _ h => h) (fun _ => HH) (bd_st (parts := #[(0, .tmp 12), (1, .tmp 18)]) Tryd.underlying85 (by kernel_rfl) ze85 (evs_cons rfl (evs_cons rfl evs_nil)) (pl := [(0, 1), (1, 1)]) (by kernel_rfl) (szs := [1, 1]) rfl (inferInstance : SgW [(1, _), (1, _)]) rfl) rfl rfl ?_; clear HF ac; intro ac HF
            refine dx_one (i := 14) (by kernel_rfl) ?_
            refine op_ef0 (i := 14) HF rfl rfl (ef_stores HS sz85 rfl rfl rfl rfl) ?_; clear HS; rintro _ w HS
            replace HH := HS.d3.r2
            refine ⟨fun _ => HH, ?_⟩
            refine dx_done (by kernel_rfl) ?_
            exact J _ _ ⟨_, _, _, _, _, _, _, HF.sub (by repeat (first | exact ag_nil | refine ag_cons rfl ?_)), HS.rot⟩
        · refine op_ef (i := 13) HF rfl rfl rfl (ef_alloc HS ze85) ?_; clear HF HS ac; rintro _ w ac ⟨g6, rfl, HS⟩ HF
          replace HH := HS.d3
          refine ⟨fun _ => HH, ?_⟩
          refine dx_one (i := 5) (by kernel_rfl) ?_
          refine op_call (i := 5) HF rfl Tryd.func134 (by kernel_rfl) (by kernel_rfl) (evs_cons rfl (evs_cons rfl evs_nil)) (input2_any 1 p q g2 g2 0 32 g11 w (HS.rdB (g := g2) (off := 0) (s := h2S p q) rfl) (HS.rdB (g := g2) (off := 32) (s := h2S p q) rfl) (by have := HS.rdLit (g := g11) (k := 2) (size := 1) rfl (by decide); simpa [sgL, Value.cells] using this)) rfl rfl ?_; clear HF ac
          rintro _ w ⟨a12, c12, rfl, k1⟩
          refine ⟨_, rfl, fun ac HF => ?_⟩
          replace HH := HH.call k1.kp
          replace HS := HS.joinR1 k1
          clear k1
          refine ⟨fun _ => HH, ?_⟩
          refine dx_one (i := 11) (by kernel_rfl) ?_
          refine op_call (i := 11) HF rfl Tryd.func134 (by kernel_rfl) (by kernel_rfl) (evs_cons rfl (evs_cons rfl evs_nil)) (input2_any 1 r s g3 g3 0 32 g17 w (HS.rdB (g := g3) (off := 0) (s := h2S r s) rfl) (HS.rdB (g := g3) (off := 32) (s := h2S r s) rfl) (by have := HS.rdLit (g := g17) (k := 2) (size := 1) rfl (by decide); simpa [sgL, Value.cells] using this)) rfl rfl ?_; clear HF ac
          rintro _ w ⟨a18, c18, rfl, k1⟩
          refine ⟨_, rfl, fun ac HF => ?_⟩
          replace HH := HH.call k1.kp
          replace HS := HS.joinR1 k1
          clear k1
          refine ⟨fun _ => HH, ?_⟩
          refine dx_p (i := 12) HF rfl (by kernel_rfl) (by kernel_rfl) (by kernel_rfl) (by decide) (fun _ _ _ h => h) (fun _ => HH) (bd_st (parts := #[(0, .tmp 12), (1, .tmp 18)]) Tryd.underlying85 (by kernel_rfl) ze85 (evs_cons rfl (evs_cons rfl evs_nil)) (pl := [(0, 1), (1, 1)]) (by kernel_rfl) (szs := [1, 1]) rfl (inferInstance : SgW [(1, _), (1, _)]) rfl) rfl rfl ?_; clear HF ac; intro ac HF
          refine dx_one (i := 14) (by kernel_rfl) ?_
          refine op_ef0 (i := 14) HF rfl rfl (ef_stores HS sz85 rfl rfl rfl rfl) ?_; clear HS; rintro _ w HS
          replace HH := HS.d3.r2
          refine ⟨fun _ => HH, ?_⟩
          refine dx_done (by kernel_rfl) ?_
          exact J _ _ ⟨_, _, _, _, _, _, _, HF.sub (by repeat (first | exact ag_nil | refine ag_cons rfl ?_)), HS.rot⟩
      · refine op_ef (i := 13) HF rfl rfl rfl (ef_alloc HS ze85) ?_; clear HF HS ac; rintro _ w ac ⟨g6, rfl, HS⟩ HF
        replace HH := HS.d2
        refine ⟨fun _ => HH, ?_⟩
        refine dx_two (i := 5) (j := 10) (by kernel_rfl) ?_ ?_
        · refine op_call (i := 5) HF rfl Tryd.func134 (by kernel_rfl) (by kernel_rfl) (evs_cons rfl (evs_cons rfl evs_nil)) (input2_any 1 p q g2 g2 0 32 g11 w (HS.rdB (g := g2) (off := 0) (s := h2S p q) rfl) (HS.rdB (g := g2) (off := 32) (s := h2S p q) rfl) (by have := HS.rdLit (g := g11) (k := 2) (size := 1) rfl (by decide); simpa [sgL, Value.cells] using this)) rfl rfl ?_; clear HF ac
          rintro _ w ⟨a12, c12, rfl, k1⟩
          refine ⟨_, rfl, fun ac HF => ?_⟩
          replace HH := HH.call k1.kp
          replace HS := HS.joinR1 k1
          clear k1
          refine ⟨fun _ => HH, ?_⟩
          refine dx_one (i := 10) (by kernel_rfl) ?_
          refine op_ef (i := 10) HF rfl rfl rfl (ef_lit (n := 2) HS sl61 (parts := #[(0, .tmp 14), (1, .tmp 16)]) (evs_cons rfl (evs_cons rfl evs_nil)) rfl rfl (s := [(1, _), (1, _)]) rfl (by simp)) ?_; clear HF HS ac; rintro _ w ac ⟨g17, rfl, HS⟩ HF
          replace HH := HS.d3.r1
          refine ⟨fun _ => HH, ?_⟩
          refine dx_one (i := 11) (by kernel_rfl) ?_
          refine op_call (i := 11) HF rfl Tryd.func134 (by kernel_rfl) (by kernel_rfl) (evs_cons rfl (evs_cons rfl evs_nil)) (input2_any 1 r s g3 g3 0 32 g17 w (HS.rdB (g := g3) (off := 0) (s := h2S r s) rfl) (HS.rdB (g := g3) (off := 32) (s := h2S r s) rfl) (by have := HS.rdLit (g := g17) (k := 2) (size := 1) rfl (by decide); simpa [sgL, Value.cells] using this)) rfl rfl ?_; clear HF ac
          rintro _ w ⟨a18, c18, rfl, k1⟩
          refine ⟨_, rfl, fun ac HF => ?_⟩
          replace HH := HH.call k1.kp
          replace HS := HS.joinR1 k1
          clear k1
          refine ⟨fun _ => HH, ?_⟩
          refine dx_p (i := 12) HF rfl (by kernel_rfl) (by kernel_rfl) (by kernel_rfl) (by decide) (fun _ _ _ h => h) (fun _ => HH) (bd_st (parts := #[(0, .tmp 12), (1, .tmp 18)]) Tryd.underlying85 (by kernel_rfl) ze85 (evs_cons rfl (evs_cons rfl evs_nil)) (pl := [(0, 1), (1, 1)]) (by kernel_rfl) (szs := [1, 1]) rfl (inferInstance : SgW [(1, _), (1, _)]) rfl) rfl rfl ?_; clear HF ac; intro ac HF
          refine dx_one (i := 14) (by kernel_rfl) ?_
          refine op_ef0 (i := 14) HF rfl rfl (ef_stores HS sz85 rfl rfl rfl rfl) ?_; clear HS; rintro _ w HS
          replace HH := HS.d3.r2
          refine ⟨fun _ => HH, ?_⟩
          refine dx_done (by kernel_rfl) ?_
          exact J _ _ ⟨_, _, _, _, _, _, _, HF.sub (by repeat (first | exact ag_nil | refine ag_cons rfl ?_)), HS.swap.rot⟩
        · refine op_ef (i := 10) HF rfl rfl rfl (ef_lit (n := 2) HS sl61 (parts := #[(0, .tmp 14), (1, .tmp 16)]) (evs_cons rfl (evs_cons rfl evs_nil)) rfl rfl (s := [(1, _), (1, _)]) rfl (by simp)) ?_; clear HF HS ac; rintro _ w ac ⟨g17, rfl, HS⟩ HF
          replace HH := HS.d3
          refine ⟨fun _ => HH, ?_⟩
          refine dx_one (i := 5) (by kernel_rfl) ?_
          refine op_call (i := 5) HF rfl Tryd.func134 (by kernel_rfl) (by kernel_rfl) (evs_cons rfl (evs_cons rfl evs_nil)) (input2_any 1 p q g2 g2 0 32 g11 w (HS.rdB (g := g2) (off := 0) (s := h2S p q) rfl) (HS.rdB (g := g2) (off := 32) (s := h2S p q) rfl) (by have := HS.rdLit (g := g11) (k := 2) (size := 1) rfl (by decide); simpa [sgL, Value.cells] using this)) rfl rfl ?_; clear HF ac
          rintro _ w ⟨a12, c12, rfl, k1⟩
          refine ⟨_, rfl, fun ac HF => ?_⟩
          replace HH := HH.call k1.kp
          replace HS := HS.joinR1 k1
          clear k1
          refine ⟨fun _ => HH, ?_⟩
          refine dx_one (i := 11) (by kernel_rfl) ?_
          refine op_call (i := 11) HF rfl Tryd.func134 (by kernel_rfl) (by kernel_rfl) (evs_cons rfl (evs_cons rfl evs_nil)) (input2_any 1 r s g3 g3 0 32 g17 w (HS.rdB (g := g3) (off := 0) (s := h2S r s) rfl) (HS.rdB (g := g3) (off := 32) (s := h2S r s) rfl) (by have := HS.rdLit (g := g17) (k := 2) (size := 1) rfl (by decide); simpa [sgL, Value.cells] using this)) rfl rfl ?_; clear HF ac
          rintro _ w ⟨a18, c18, rfl, k1⟩
          refine ⟨_, rfl, fun ac HF => ?_⟩
          replace HH := HH.call k1.kp
          replace HS := HS.joinR1 k1
          clear k1
          refine ⟨fun _ => HH, ?_⟩
          refine dx_p (i := 12) HF rfl (by kernel_rfl) (by kernel_rfl) (by kernel_rfl) (by decide) (fun _ _ _ h => h) (fun _ => HH) (bd_st (parts := #[(0, .tmp 12), (1, .tmp 18)]) Tryd.underlying85 (by kernel_rfl) ze85 (evs_cons rfl (evs_cons rfl evs_nil)) (pl := [(0, 1), (1, 1)]) (by kernel_rfl) (szs := [1, 1]) rfl (inferInstance : SgW [(1, _), (1, _)]) rfl) rfl rfl ?_; clear HF ac; intro ac HF
          refine dx_one (i := 14) (by kernel_rfl) ?_
          refine op_ef0 (i := 14) HF rfl rfl (ef_stores HS sz85 rfl rfl rfl rfl) ?_; clear HS; rintro _ w HS
          replace HH := HS.d3.r2
          refine ⟨fun _ => HH, ?_⟩
          refine dx_done (by kernel_rfl) ?_
          exact J _ _ ⟨_, _, _, _, _, _, _, HF.sub (by repeat (first | exact ag_nil | refine ag_cons rfl ?_)), HS.swap.rot⟩
    · refine op_ef (i := 10) HF rfl rfl rfl (ef_lit (n := 2) HS sl61 (parts := #[(0, .tmp 14), (1, .tmp 16)]) (evs_cons rfl (evs_cons rfl evs_nil)) rfl rfl (s := [(1, _), (1, _)]) rfl (by simp)) ?_; clear HF HS ac; rintro _ w ac ⟨g17, rfl, HS⟩ HF
      replace HH := HS.d1
      refine ⟨fun _ => HH, ?_⟩
      refine dx_two (i := 4) (j := 13) (by kernel_rfl) ?_ ?_
      · refine op_ef (i := 4) HF rfl rfl rfl (ef_lit (n := 2) HS sl61 (parts := #[(0, .tmp 8), (1, .tmp 10)]) (evs_cons rfl (evs_cons rfl evs_nil)) rfl rfl (s := [(1, _), (1, _)]) rfl (by simp)) ?_; clear HF HS ac; rintro _ w ac ⟨g11, rfl, HS⟩ HF
        replace HH := HS.d2
        refine ⟨fun _ => HH, ?_⟩
        refine dx_two (i := 5) (j := 13) (by kernel_rfl) ?_ ?_
        · refine op_call (i := 5) HF rfl Tryd.func134 (by kernel_rfl) (by kernel_rfl) (evs_cons rfl (evs_cons rfl evs_nil)) (input2_any 1 p q g2 g2 0 32 g11 w (HS.rdB (g := g2) (off := 0) (s := h2S p q) rfl) (HS.rdB (g := g2) (off := 32) (s := h2S p q) rfl) (by have := HS.rdLit (g := g11) (k := 2) (size := 1) rfl (by decide); simpa [sgL, Value.cells] using this)) rfl rfl ?_; clear HF ac
          rintro _ w ⟨a12, c12, rfl, k1⟩
          refine ⟨_, rfl, fun ac HF => ?_⟩
          replace HH := HH.call k1.kp
          replace HS := HS.joinR1 k1
          clear k1
          refine ⟨fun _ => HH, ?_⟩
          refine dx_two (i := 11) (j := 13) (by kernel_rfl) ?_ ?_
          · refine op_call (i := 11) HF rfl Tryd.func134 (by kernel_rfl) (by kernel_rfl) (evs_cons rfl (evs_cons rfl evs_nil)) (input2_any 1 r s g3 g3 0 32 g17 w (HS.rdB (g := g3) (off := 0) (s := h2S r s) rfl) (HS.rdB (g := g3) (off := 32) (s := h2S r s) rfl) (by have := HS.rdLit (g := g17) (k := 2) (size := 1) rfl (by decide); simpa [sgL, Value.cells] using this)) rfl rfl ?_; clear HF ac
            rintro _ w ⟨a18, c18, rfl, k1⟩
            refine ⟨_, rfl, fun ac HF => ?_⟩
            replace HH := HH.call k1.kp
            replace HS := HS.joinR1 k1
            clear k1
            refine ⟨fun _ => HH, ?_⟩
            refine dx_p (i := 12) HF rfl (by kernel_rfl) (by kernel_rfl) (by kernel_rfl) (by decide) (fun _ _ _ h => h) (fun _ => HH) (bd_st (parts := #[(0, .tmp 12), (1, .tmp 18)]) Tryd.underlying85 (by kernel_rfl) ze85 (evs_cons rfl (evs_cons rfl evs_nil)) (pl := [(0, 1), (1, 1)]) (by kernel_rfl) (szs := [1, 1]) rfl (inferInstance : SgW [(1, _), (1, _)]) rfl) rfl rfl ?_; clear HF ac; intro ac HF
            refine dx_one (i := 13) (by kernel_rfl) ?_
            refine op_ef (i := 13) HF rfl rfl rfl (ef_alloc HS ze85) ?_; clear HF HS ac; rintro _ w ac ⟨g6, rfl, HS⟩ HF
            replace HH := HS.d3.r2
            refine ⟨fun _ => HH, ?_⟩
            refine dx_one (i := 14) (by kernel_rfl) ?_
            refine op_ef0 (i := 14) HF rfl rfl (ef_stores HS sz85 rfl rfl rfl rfl) ?_; clear HS; rintro _ w HS
            replace HH := HS.d3.r2
            refine ⟨fun _ => HH, ?_⟩
            refine dx_done (by kernel_rfl) ?_
            exact J _ _ ⟨_, _, _, _, _, _, _, HF.sub (by repeat (first | exact ag_nil | refine ag_cons rfl ?_)), HS.rot.swap⟩
          · refine op_ef (i := 13) HF rfl rfl rfl (ef_alloc HS ze85) ?_; clear HF HS ac; rintro _ w ac ⟨g6, rfl, HS⟩ HF
            replace HH := HS.d3.r1
            refine ⟨fun _ => HH, ?_⟩
            refine dx_one (i := 11) (by kernel_rfl) ?_
            refine op_call (i := 11) HF rfl Tryd.func134 (by kernel_rfl) (by kernel_rfl) (evs_cons rfl (evs_cons rfl evs_nil)) (input2_any 1 r s g3 g3 0 32 g17 w (HS.rdB (g := g3) (off := 0) (s := h2S r s) rfl) (HS.rdB (g := g3) (off := 32) (s := h2S r s) rfl) (by have := HS.rdLit (g := g17) (k := 2) (size := 1) rfl (by decide); simpa [sgL, Value.cells] using this)) rfl rfl ?_; clear HF ac
            rintro _ w ⟨a18, c18, rfl, k1⟩
            refine ⟨_, rfl, fun ac HF => ?_⟩
            replace HH := HH.call k1.kp
            replace HS := HS.joinR1 k1
            clear k1
            refine ⟨fun _ => HH, ?_⟩
            refine dx_p (i := 12) HF rfl (by kernel_rfl) (by kernel_rfl) (by kernel_rfl) (by decide) (fun _ _ _ h => h) (fun _ => HH) (bd_st (parts := #[(0, .tmp 12), (1, .tmp 18)]) Tryd.underlying85 (by kernel_rfl) ze85 (evs_cons rfl (evs_cons rfl evs_nil)) (pl := [(0, 1), (1, 1)]) (by kernel_rfl) (szs := [1, 1]) rfl (inferInstance : SgW [(1, _), (1, _)]) rfl) rfl rfl ?_; clear HF ac; intro ac HF
            refine dx_one (i := 14) (by kernel_rfl) ?_
            refine op_ef0 (i := 14) HF rfl rfl (ef_stores HS sz85 rfl rfl rfl rfl) ?_; clear HS; rintro _ w HS
            replace HH := HS.d3.r2
            refine ⟨fun _ => HH, ?_⟩
            refine dx_done (by kernel_rfl) ?_
            exact J _ _ ⟨_, _, _, _, _, _, _, HF.sub (by repeat (first | exact ag_nil | refine ag_cons rfl ?_)), HS.rot.swap⟩
        · refine op_ef (i := 13) HF rfl rfl rfl (ef_alloc HS ze85) ?_; clear HF HS ac; rintro _ w ac ⟨g6, rfl, HS⟩ HF
          replace HH := HS.d3
          refine ⟨fun _ => HH, ?_⟩
          refine dx_one (i := 5) (by kernel_rfl) ?_
          refine op_call (i := 5) HF rfl Tryd.func134 (by kernel_rfl) (by kernel_rfl) (evs_cons rfl (evs_cons rfl evs_nil)) (input2_any 1 p q g2 g2 0 32 g11 w (HS.rdB (g := g2) (off := 0) (s := h2S p q) rfl) (HS.rdB (g := g2) (off := 32) (s := h2S p q) rfl) (by have := HS.rdLit (g := g11) (k := 2) (size := 1) rfl (by decide); simpa [sgL, Value.cells] using this)) rfl rfl ?_; clear HF ac
          rintro _ w ⟨a12, c12, rfl, k1⟩
          refine ⟨_, rfl, fun ac HF => ?_⟩
          replace HH := HH.call k1.kp
          replace HS := HS.joinR1 k1
          clear k1
          refine ⟨fun _ => HH, ?_⟩
          refine dx_one (i := 11) (by kernel_rfl) ?_
          refine op_call (i := 11) HF rfl Tryd.func134 (by kernel_rfl) (by kernel_rfl) (evs_cons rfl (evs_cons rfl evs_nil)) (input2_any 1 r s g3 g3 0 32 g17 w (HS.rdB (g := g3) (off := 0) (s := h2S r s) rfl) (HS.rdB (g := g3) (off := 32) (s := h2S r s) rfl) (by have := HS.rdLit (g := g17) (k := 2) (size := 1) rfl (by decide); simpa [sgL, Value.cells] using this)) rfl rfl ?_; clear HF ac
          rintro _ w ⟨a18, c18, rfl, k1⟩
          refine ⟨_, rfl, fun ac HF => ?_⟩
          replace HH := HH.call k1.kp
          replace HS := HS.joinR1 k1
          clear k1
          refine ⟨fun _ => HH, ?_⟩
          refine dx_p (i := 12) HF rfl (by kernel_rfl) (by kernel_rfl) (by kernel_rfl) (by decide) (fun _ _ _ h => h) (fun _ => HH) (bd_st (parts := #[(0, .tmp 12), (1, .tmp 18)]) Tryd.underlying85 (by kernel_rfl) ze85 (evs_cons rfl (evs_cons rfl evs_nil)) (pl := [(0, 1), (1, 1)]) (by kernel_rfl) (szs := [1, 1]) rfl (inferInstance : SgW [(1, _), (1, _)]) rfl) rfl rfl ?_; clear HF ac; intro ac HF
          refine dx_one (i := 14) (by kernel_rfl) ?_
          refine op_ef0 (i := 14) HF rfl rfl (ef_stores HS sz85 rfl rfl rfl rfl) ?_; clear HS; rintro _ w HS
          replace HH := HS.d3.r2
          refine ⟨fun _ => HH, ?_⟩
          refine dx_done (by kernel_rfl) ?_
          exact J _ _ ⟨_, _, _, _, _, _, _, HF.sub (by repeat (first | exact ag_nil | refine ag_cons rfl ?_)), HS.rot.swap⟩
      · refine op_ef (i := 13) HF rfl rfl rfl (ef_alloc HS ze85) ?_; clear HF HS ac; rintro _ w ac ⟨g6, rfl, HS⟩ HF
        replace HH := HS.d2
        refine ⟨fun _ => HH, ?_⟩
        refine dx_one (i := 4) (by kernel_rfl) ?_
        refine op_ef (i := 4) HF rfl rfl rfl (ef_lit (n := 2) HS sl61 (parts := #[(0, .tmp 8), (1, .tmp 10)]) (evs_cons rfl (evs_cons rfl evs_nil)) rfl rfl (s := [(1, _), (1, _)]) rfl (by simp)) ?_; clear HF HS ac; rintro _ w ac ⟨g11, rfl, HS⟩ HF
        replace HH := HS.d3
        refine ⟨fun _ => HH, ?_⟩
        refine dx_one (i := 5) (by kernel_rfl) ?_
        refine op_call (i := 5) HF rfl Tryd.func134 (by kernel_rfl) (by kernel_rfl) (evs_cons rfl (evs_cons rfl evs_nil)) (input2_any 1 p q g2 g2 0 32 g11 w (HS.rdB (g := g2) (off := 0) (s := h2S p q) rfl) (HS.rdB (g := g2) (off := 32) (s := h2S p q) rfl) (by have := HS.rdLit (g := g11) (k := 2) (size := 1) rfl (by decide); simpa [sgL, Value.cells] using this)) rfl rfl ?_; clear HF ac
        rintro _ w ⟨a12, c12, rfl, k1⟩
        refine ⟨_, rfl, fun ac HF => ?_⟩
        replace HH := HH.call k1.kp
        replace HS := HS.joinR1 k1
        clear k1
        refine ⟨fun _ => HH, ?_⟩
        refine dx_one (i := 11) (by kernel_rfl) ?_
        refine op_call (i := 11) HF rfl Tryd.func134 (by kernel_rfl) (by kernel_rfl) (evs_cons rfl (evs_cons rfl evs_nil)) (input2_any 1 r s g3 g3 0 32 g17 w (HS.rdB (g := g3) (off := 0) (s := h2S r s) rfl) (HS.rdB (g := g3) (off := 32) (s := h2S r s) rfl) (by have := HS.rdLit (g := g17) (k := 2) (size := 1) rfl (by decide); simpa [sgL, Value.cells] using this)) rfl rfl ?_; clear HF ac
        rintro _ w ⟨a18, c18, rfl, k1⟩
        refine ⟨_, rfl, fun ac HF => ?_⟩
        replace HH := HH.call k1.kp
        replace HS := HS.joinR1 k1
        clear k1
        refine ⟨fun _ => HH, ?_⟩
        refine dx_p (i := 12) HF rfl (by kernel_rfl) (by kernel_rfl) (by kernel_rfl) (by decide) (fun _ _ _ h => h) (fun _ => HH) (bd_st (parts := #[(0, .tmp 12), (1, .tmp 18)]) Tryd.underlying85 (by kernel_rfl) ze85 (evs_cons rfl (evs_cons rfl evs_nil)) (pl := [(0, 1), (1, 1)]) (by kernel_rfl) (szs := [1, 1]) rfl (inferInstance : SgW [(1, _), (1, _)]) rfl) rfl rfl ?_; clear HF ac; intro ac HF
        refine dx_one (i := 14) (by kernel_rfl) ?_
        refine op_ef0 (i := 14) HF rfl rfl (ef_stores HS sz85 rfl rfl rfl rfl) ?_; clear HS; rintro _ w HS
        replace HH := HS.d3.r2
        refine ⟨fun _ => HH, ?_⟩
        refine dx_done (by kernel_rfl) ?_
        exact J _ _ ⟨_, _, _, _, _, _, _, HF.sub (by repeat (first | exact ag_nil | refine ag_cons rfl ?_)), HS.rot.rot⟩
    · refine op_ef (i := 13) HF rfl rfl rfl (ef_alloc HS ze85) ?_; clear HF HS ac; rintro _ w ac ⟨g6, rfl, HS⟩ HF
      replace HH := HS.d1
      refine ⟨fun _ => HH, ?_⟩
      refine dx_two (i := 4) (j := 10) (by kernel_rfl) ?_ ?_
      · refine op_ef (i := 4) HF rfl rfl rfl (ef_lit (n := 2) HS sl61 (parts := #[(0, .tmp 8), (1, .tmp 10)]) (evs_cons rfl (evs_cons rfl evs_nil)) rfl rfl (s := [(1, _), (1, _)]) rfl (by simp)) ?_; clear HF HS ac; rintro _ w ac ⟨g11, rfl, HS⟩ HF
        replace HH := HS.d2
        refine ⟨fun _ => HH, ?_⟩
        refine dx_two (i := 5) (j := 10) (by kernel_rfl) ?_ ?_
        · refine op_call (i := 5) HF rfl Tryd.func134 (by kernel_rfl) (by kernel_rfl) (evs_cons rfl (evs_cons rfl evs_nil)) (input2_any 1 p q g2 g2 0 32 g11 w (HS.rdB (g := g2) (off := 0) (s := h2S p q) rfl) (HS.rdB (g := g2) (off := 32) (s := h2S p q) rfl) (by have := HS.rdLit (g := g11) (k := 2) (size := 1) rfl (by decide); simpa [sgL, Value.cells] using this)) rfl rfl ?_; clear HF ac
          rintro _ w ⟨a12, c12, rfl, k1⟩
          refine ⟨_, rfl, fun ac HF => ?_⟩
          replace HH := HH.call k1.kp
          replace HS := HS.joinR1 k1
          clear k1
          refine ⟨fun _ => HH, ?_⟩
          refine dx_one (i := 10) (by kernel_rfl) ?_
          refine op_ef (i := 10) HF rfl rfl rfl (ef_lit (n := 2) HS sl61 (parts := #[(0, .tmp 14), (1, .tmp 16)]) (evs_cons rfl (evs_cons rfl evs_nil)) rfl rfl (s := [(1, _), (1, _)]) rfl (by simp)) ?_; clear HF HS ac; rintro _ w ac ⟨g17, rfl, HS⟩ HF
          replace HH := HS.d3.r1
          refine ⟨fun _ => HH, ?_⟩
          refine dx_one (i := 11) (by kernel_rfl) ?_
          refine op_call (i := 11) HF rfl Tryd.func134 (by kernel_rfl) (by kernel_rfl) (evs_cons rfl (evs_cons rfl evs_nil)) (input2_any 1 r s g3 g3 0 32 g17 w (HS.rdB (g := g3) (off := 0) (s := h2S r s) rfl) (HS.rdB (g := g3) (off := 32) (s := h2S r s) rfl) (by have := HS.rdLit (g := g17) (k := 2) (size := 1) rfl (by decide); simpa [sgL, Value.cells] using this)) rfl rfl ?_; clear HF ac
          rintro _ w ⟨a18, c18, rfl, k1⟩
          refine ⟨_, rfl, fun ac HF => ?_⟩
          replace HH := HH.call k1.kp
          replace HS := HS.joinR1 k1
          clear k1
          refine ⟨fun _ => HH, ?_⟩
          refine dx_p (i := 12) HF rfl (by kernel_rfl) (by kernel_rfl) (by kernel_rfl) (by decide) (fun _ _ _ h => h) (fun _ => HH) (bd_st (parts := #[(0, .tmp 12), (1, .tmp 18)]) Tryd.underlying85 (by kernel_rfl) ze85 (evs_cons rfl (evs_cons rfl evs_nil)) (pl := [(0, 1), (1, 1)]) (by kernel_rfl) (szs := [1, 1]) rfl (inferInstance : SgW [(1, _), (1, _)]) rfl) rfl rfl ?_; clear HF ac; intro ac HF
          refine dx_one (i := 14) (by kernel_rfl) ?_
          refine op_ef0 (i := 14) HF rfl rfl (ef_stores HS sz85 rfl rfl rfl rfl) ?_; clear HS; rintro _ w HS
          replace HH := HS.d3.r2
          refine ⟨fun _ => HH, ?_⟩
          refine dx_done (by kernel_rfl) ?_
          exact J _ _ ⟨_, _, _, _, _, _, _, HF.sub (by repeat (first | exact ag_nil | refine ag_cons rfl ?_)), HS⟩
        · refine op_ef (i := 10) HF rfl rfl rfl (ef_lit (n := 2) HS sl61 (parts := #[(0, .tmp 14), (1, .tmp 16)]) (evs_cons rfl (evs_cons rfl evs_nil)) rfl rfl (s := [(1, _), (1, _)]) rfl (by simp)) ?_; clear HF HS ac; rintro _ w ac ⟨g17, rfl, HS⟩ HF
          replace HH := HS.d3
          refine ⟨fun _ => HH, ?_⟩
          refine dx_one (i := 5) (by kernel_rfl) ?_
          refine op_call (i := 5) HF rfl Tryd.func134 (by kernel_rfl) (by kernel_rfl) (evs_cons rfl (evs_cons rfl evs_nil)) (input2_any 1 p q g2 g2 0 32 g11 w (HS.rdB (g := g2) (off := 0) (s := h2S p q) rfl) (HS.rdB (g := g2) (off := 32) (s := h2S p q) rfl) (by have := HS.rdLit (g := g11) (k := 2) (size := 1) rfl (by decide); simpa [sgL, Value.cells] using this)) rfl rfl ?_; clear HF ac
          rintro _ w ⟨a12, c12, rfl, k1⟩
          refine ⟨_, rfl, fun ac HF => ?_⟩
          replace HH := HH.call k1.kp
          replace HS := HS.joinR1 k1
          clear k1
          refine ⟨fun _ => HH, ?_⟩
          refine dx_one (i := 11) (by kernel_rfl) ?_
          refine op_call (i := 11) HF rfl Tryd.func134 (by kernel_rfl) (by kernel_rfl) (evs_cons rfl (evs_cons rfl evs_nil)) (input2_any 1 r s g3 g3 0 32 g17 w (HS.rdB (g := g3) (off := 0) (s := h2S r s) rfl) (HS.rdB (g := g3) (off := 32) (s := h2S r s) rfl) (by have := HS.rdLit (g := g17) (k := 2) (size := 1) rfl (by decide); simpa [sgL, Value.cells] using this)) rfl rfl ?_; clear HF ac
          rintro _ w ⟨a18, c18, rfl, k1⟩
          refine ⟨_, rfl, fun ac HF => ?_⟩
          replace HH := HH.call k1.kp
          replace HS := HS.joinR1 k1
          clear k1
          refine ⟨fun _ => HH, ?_⟩
          refine dx_p (i := 12) HF rfl (by kernel_rfl) (by kernel_rfl) (by kernel_rfl) (by decide) (fun _ _ _ h => h) (fun _ => HH) (bd_st (parts := #[(0, .tmp 12), (1, .tmp 18)]) Tryd.underlying85 (by kernel_rfl) ze85 (evs_cons rfl (evs_cons rfl evs_nil)) (pl := [(0, 1), (1, 1)]) (by kernel_rfl) (szs := [1, 1]) rfl (inferInstance : SgW [(1, _), (1, _)]) rfl) rfl rfl ?_; clear HF ac; intro ac HF
          refine dx_one (i := 14) (by kernel_rfl) ?_
          refine op_ef0 (i := 14) HF rfl rfl (ef_stores HS sz85 rfl rfl rfl rfl) ?_; clear HS; rintro _ w HS
          replace HH := HS.d3.r2
          refine ⟨fun _ => HH, ?_⟩
          refine dx_done (by kernel_rfl) ?_
          exact J _ _ ⟨_, _, _, _, _, _, _, HF.sub (by repeat (first | exact ag_nil | refine ag_cons rfl ?_)), HS⟩
      · refine op_ef (i := 10) HF rfl rfl rfl (ef_lit (n := 2) HS sl61 (parts := #[(0, .tmp 14), (1, .tmp 16)]) (evs_cons rfl (evs_cons rfl evs_nil)) rfl rfl (s := [(1, _), (1, _)]) rfl (by simp)) ?_; clear HF HS ac; rintro _ w ac ⟨g17, rfl, HS⟩ HF
        replace HH := HS.d2
        refine ⟨fun _ => HH, ?_⟩
        refine dx_one (i := 4) (by kernel_rfl) ?_
        refine op_ef (i := 4) HF rfl rfl rfl (ef_lit (n := 2) HS sl61 (parts := #[(0, .tmp 8), (1, .tmp 10)]) (evs_cons rfl (evs_cons rfl evs_nil)) rfl rfl (s := [(1, _), (1, _)]) rfl (by simp)) ?_; clear HF HS ac; rintro _ w ac ⟨g11, rfl, HS⟩ HF
        replace HH := HS.d3
        refine ⟨fun _ => HH, ?_⟩
        refine dx_one (i := 5) (by kernel_rfl) ?_
        refine op_call (i := 5) HF rfl Tryd.func134 (by kernel_rfl) (by kernel_rfl) (evs_cons rfl (evs_cons rfl evs_nil)) (input2_any 1 p q g2 g2 0 32 g11 w (HS.rdB (g := g2) (off := 0) (s := h2S p q) rfl) (HS.rdB (g := g2) (off := 32) (s := h2S p q) rfl) (by have := HS.rdLit (g := g11) (k := 2) (size := 1) rfl (by decide); simpa [sgL, Value.cells] using this)) rfl rfl ?_; clear HF ac
        rintro _ w ⟨a12, c12, rfl, k1⟩
        refine ⟨_, rfl, fun ac HF => ?_⟩
        replace HH := HH.call k1.kp
        replace HS := HS.joinR1 k1
        clear k1
        refine ⟨fun _ => HH, ?_⟩
        refine dx_one (i := 11) (by kernel_rfl) ?_
        refine op_call (i := 11) HF rfl Tryd.func134 (by kernel_rfl) (by kernel_rfl) (evs_cons rfl (evs_cons rfl evs_nil)) (input2_any 1 r s g3 g3 0 32 g17 w (HS.rdB (g := g3) (off := 0) (s := h2S r s) rfl) (HS.rdB (g := g3) (off := 32) (s := h2S r s) rfl) (by have := HS.rdLit (g := g17) (k := 2) (size := 1) rfl (by decide); simpa [sgL, Value.cells] using this)) rfl rfl ?_; clear HF ac
        rintro _ w ⟨a18, c18, rfl, k1⟩
        refine ⟨_, rfl, fun ac HF => ?_⟩
        replace HH := HH.call k1.kp
        replace HS := HS.joinR1 k1
        clear k1
        refine ⟨fun _ => HH, ?_⟩
        refine dx_p (i := 12) HF rfl (by kernel_rfl) (by kernel_rfl) (by kernel_rfl) (by decide) (fun _ _ _ h => h) (fun _ => HH) (bd_st (parts := #[(0, .tmp 12), (1, .tmp 18)]) Tryd.underlying85 (by kernel_rfl) ze85 (evs_cons rfl (evs_cons rfl evs_nil)) (pl := [(0, 1), (1, 1)]) (by kernel_rfl) (szs := [1, 1]) rfl (inferInstance : SgW [(1, _), (1, _)]) rfl) rfl rfl ?_; clear HF ac; intro ac HF
        refine dx_one (i := 14) (by kernel_rfl) ?_
        refine op_ef0 (i := 14) HF rfl rfl (ef_stores HS sz85 rfl rfl rfl rfl) ?_; clear HS; rintro _ w HS
        replace HH := HS.d3.r2
        refine ⟨fun _ => HH, ?_⟩
        refine dx_done (by kernel_rfl) ?_
        exact J _ _ ⟨_, _, _, _, _, _, _, HF.sub (by repeat (first | exact ag_nil | refine ag_cons rfl ?_)), HS.swap⟩

set_option maxRecDepth 100000 in
theorem leaves2_any (xs ys : List UInt8) (a b : Option Addr) (c d : Nat) (w0 : World) (hx : Rd w0 a xs.length c 1 (bcs xs)) (hy : Rd w0 b ys.length d 1 (bcs ys)) (hxl : xs.length ≤ 1099511627775) (hyl : ys.length ≤ 1099511627775) (hL : Laid w0) (h2 : 4 ≤ w0.heap.size) :
    Calls Tryd.prog 105 #[.slice a xs.length c, .slice b ys.length d] w0 fun e w' => ∃ a9 c9 a12 c12, e = .returned (.tuple #[.agg (sgA (coS a9 (0 :: xs).length c9 a12 (0 :: ys).length c12)), .bool (rightB (0 :: xs) (0 :: ys))]) ∧ St [] w0 [] [⟨5, 1, a12, (0 :: ys).length, c12, bcs (0 :: ys)⟩, ⟨5, 1, a9, (0 :: xs).length, c9, bcs (0 :: xs)⟩] w' := by
  refine calls_st (F := []) (args := [.slice a xs.length c, .slice b ys.length d]) Tryd.func105 rfl (n := 17) rfl rfl ?_
  intro ac w HF HS
  refine wp_seq ?_
  refine wp_region_lit ?_
  refine sx_ef HF (ef_alloc HS ze85) rfl rfl ?_; clear HF HS ac; rintro _ w ac ⟨g4, rfl, HS⟩ HF
  refine sx_y HF HS (yl_assign rfl) rfl rfl ?_; clear HF ac; intro ac HF
  refine wpList_nil ?_
  refine then_n ?_
  refine wp_seq ?_
  refine wp_region_lit ?_
  refine sx_y HF HS (yl_move rfl) rfl rfl ?_; clear HF ac; intro ac HF
  refine sx_ef HF (ef_lit (n := 1) HS sl61 (parts := #[(0, .tmp 7)]) (evs_cons rfl evs_nil) rfl rfl (s := [(1, _)]) rfl (by simp)) rfl rfl ?_; clear HF HS ac; rintro _ w ac ⟨g8, rfl, HS⟩ HF
  refine sx_call HF Tryd.func134 (by kernel_rfl) (by kernel_rfl) (evs_cons rfl (evs_cons rfl evs_nil)) (input1_any 0 xs a c g8 w (hx.below HS.kp) (by have := HS.rdLit (g := g8) (k := 1) (size := 1) rfl (by decide); simpa [sgL, Value.cells] using this) (by omega)) rfl rfl ?_; clear HF ac
  rintro _ w ⟨a9, c9, rfl, k1⟩
  refine ⟨_, rfl, fun ac HF => ?_⟩
  replace HS := HS.joinR1 k1
  clear k1
  refine sx_y HF HS (yl_move rfl) rfl rfl ?_; clear HF ac; intro ac HF
  refine sx_ef HF (ef_lit (n := 1) HS sl61 (parts := #[(0, .tmp 10)]) (evs_cons rfl evs_nil) rfl rfl (s := [(1, _)]) rfl (by simp)) rfl rfl ?_; clear HF HS ac; rintro _ w ac ⟨g11, rfl, HS⟩ HF
  refine sx_call HF Tryd.func134 (by kernel_rfl) (by kernel_rfl) (evs_cons rfl (evs_cons rfl evs_nil)) (input1_any 0 ys b d g11 w (hy.below HS.kp) (by have := HS.rdLit (g := g11) (k := 1) (size := 1) rfl (by decide); simpa [sgL, Value.cells] using this) (by omega)) rfl rfl ?_; clear HF ac
  rintro _ w ⟨a12, c12, rfl, k1⟩
  refine ⟨_, rfl, fun ac HF => ?_⟩
  replace HS := HS.joinR1 k1
  clear k1
  refine sx_y HF HS (bd_st (parts := #[(0, .tmp 9), (1, .tmp 12)]) Tryd.underlying85 (by kernel_rfl) ze85 (evs_cons rfl (evs_cons rfl evs_nil)) (pl := [(0, 1), (1, 1)]) (by kernel_rfl) (szs := [1, 1]) rfl (inferInstance : SgW [(1, _), (1, _)]) rfl) rfl rfl ?_; clear HF ac; intro ac HF
  refine sx_ef HF (ef_alloc HS ze85) rfl rfl ?_; clear HF HS ac; rintro _ w ac ⟨g6, rfl, HS⟩ HF
  refine sx_ef0 HF (ef_stores HS sz85 rfl rfl rfl rfl) rfl ?_; clear HS; rintro _ w HS
  refine wpList_nil ?_
  refine then_n ?_
  refine wp_seq ?_
  refine dx_region 5 (by kernel_rfl) HS.drew (fun _ h => h.sub (List.Sublist.cons_cons _ (List.Sublist.cons_cons _ (List.Sublist.cons_cons _ (List.Sublist.cons _ List.Sublist.slnil)))) (List.Sublist.refl _)) ?_; clear HS; intro w HS
  have HH := HS.sub (List.Sublist.cons_cons _ (List.Sublist.cons_cons _ (List.Sublist.cons_cons _ (List.Sublist.cons _ List.Sublist.slnil)))) (List.Sublist.refl _)
  refine dx_k (i := 0) HF rfl (by kernel_rfl) (by kernel_rfl) (by kernel_rfl) (by kernel_rfl) (by kernel_rfl) (fun _ _ _ h => h) HH (ld_all ag85 rfl rfl) rfl rfl ?_; clear HF ac; intro ac HF
  refine dx_k (i := 1) HF rfl (by kernel_rfl) (by kernel_rfl) (by kernel_rfl) (by kernel_rfl) (by kernel_rfl) (fun _ _ _ h => h) HH (ld_all ag85 rfl rfl) rfl rfl ?_; clear HF ac; intro ac HF
  refine dx_one (i := 2) (by kernel_rfl) ?_
  refine op_call (i := 2) HF rfl Tryd.func135 (by kernel_rfl) (by kernel_rfl) (evs_cons rfl evs_nil) (right_any (0 :: xs) (0 :: ys) a9 a12 c9 c12 w HS.row1 HS.row0 (hL.below HS.kp) (Nat.le_trans h2 HS.kp.size)) rfl rfl ?_; clear HF ac
  rintro _ w ⟨rfl, k1⟩
  refine ⟨_, rfl, fun ac HF => ?_⟩
  replace HH := HH.call k1
  replace HS := HS.call k1
  clear k1
  refine ⟨fun _ => HH, ?_⟩
  refine dx_one (i := 3) (by kernel_rfl) ?_
  refine op_ef0 (i := 3) HF rfl rfl (ef_stores HS sz85 rfl rfl rfl rfl) ?_; clear HS; rintro _ w HS
  replace HH := HS.sub (List.Sublist.cons_cons _ (List.Sublist.cons_cons _ (List.Sublist.cons_cons _ (List.Sublist.cons _ List.Sublist.slnil)))) (List.Sublist.refl _)
  refine ⟨fun _ => HH, ?_⟩
  refine dx_p (i := 4) HF rfl (by kernel_rfl) (by kernel_rfl) (by kernel_rfl) (by decide) (fun _ _ _ h => h) (fun _ => HH) (yl_assign rfl) rfl rfl ?_; clear HF ac; intro ac HF
  refine dx_done (by kernel_rfl) ?_
  clear HH
  refine then_n ?_
  refine wp_ret ?_
  exact rt2 rfl HF HS ⟨⟨_, rfl⟩, ld_all ag85 rfl rfl⟩ rfl ⟨_, _, _, _, rfl, HS.sub (List.nil_sublist _) (List.Sublist.refl _)⟩

end Go.Proofs.YtalnkhgonfcabaaDoor
