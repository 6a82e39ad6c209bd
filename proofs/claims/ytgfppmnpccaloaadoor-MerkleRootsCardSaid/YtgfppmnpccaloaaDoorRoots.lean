/-
  law07.MerkleRoots: the walk. (Printed by sx_roots.py.)
-/
import Derived.Test.YtgfppmnpccaloaaDoorIt3
import Derived.Test.YtgfppmnpccaloaaDoorAwake7
namespace Go.Proofs.YtgfppmnpccaloaaDoor.R
open Go.RowKit Go.Proofs.YtgfppmnpccaloaaDoor

/-! ### Types -/
namespace Roots
theorem ag24 : AgT Tryd.prog 24 32 := AgT.mk' Tryd.underlying24 rfl (by kernel_rfl)
theorem sc3 : ScT Tryd.prog 3 := ScT.mk' Tryd.underlying3 rfl (by kernel_rfl)
theorem sc4 : ScT Tryd.prog 4 := ScT.mk' Tryd.underlying4 rfl (by kernel_rfl)
theorem sc22 : ScT Tryd.prog 22 := ScT.mk' Tryd.underlying22 rfl (by kernel_rfl)
theorem sz3 : (Tryd.prog.info? 3).map (·.size) = some 1 := by kernel_rfl
theorem sz4 : (Tryd.prog.info? 4).map (·.size) = some 1 := by kernel_rfl
theorem sz24 : (Tryd.prog.info? 24).map (·.size) = some 32 := by kernel_rfl
theorem ze3 : ZeS Tryd.prog 3 [(1, .int .i64 0)] := ⟨.int .i64 0, ZeT.mk' (by kernel_rfl), rfl⟩
theorem ze4 : ZeS Tryd.prog 4 [(1, .bool false)] := ⟨.bool false, ZeT.mk' (by kernel_rfl), rfl⟩
theorem ze24 : ZeS Tryd.prog 24 [(32, hv zeroH)] := ⟨hv zeroH, ZeT.mk' (by kernel_rfl), (sgA_h zeroH).symm⟩
end Roots
open Go.Proofs.YtgfppmnpccaloaaDoor.R.Roots

set_option maxRecDepth 100000 in
theorem walk_big (l : List Hsh) (a : Option Addr) (q : Nat) (stop : Int) (w0 : World) (hr : Rd w0 a l.length q 32 (hsc l)) (hl : 70 < l.length) (hL : Laid w0) (h2 : 2 ≤ w0.heap.size) :
    Calls Tryd.prog 3 #[.slice a l.length q, .int .i64 stop] w0 fun e w' => e = .returned (.bool true) ∧ Kp [] w0 w' := by
  have hlm := hr.lim
  refine calls_st (F := []) (args := [.slice a l.length q, .int .i64 stop]) Tryd.func3 rfl (n := 76) rfl rfl ?_
  intro ac w HF HS
  refine wp_calm ?_
  refine wp_seq ?_
  refine wp_region_lit ?_
  refine sx_ef HF (ef_box (n := 1) HS rfl) rfl rfl ?_; clear HF HS ac; rintro _ w ac ⟨g2, rfl, HS⟩ HF
  refine sx_ef HF (ef_box (n := 1) HS rfl) rfl rfl ?_; clear HF HS ac; rintro _ w ac ⟨g3, rfl, HS⟩ HF
  refine sx_ef HF (ef_alloc HS ze4) rfl rfl ?_; clear HF HS ac; rintro _ w ac ⟨g4, rfl, HS⟩ HF
  refine wpList_nil ?_
  refine then_n ?_
  refine wp_seq ?_
  refine wp_seq ?_
  refine dx_region 10 (by kernel_rfl) HS.drew (fun _ h => h) ?_; clear HS; intro w HS
  have HH := HS
  refine dx_k (i := 0) HF rfl (by kernel_rfl) (by kernel_rfl) (by kernel_rfl) (by kernel_rfl) (by kernel_rfl) (fun _ _ _ h => h) HH (ld_sc sc22 rfl rfl rfl) rfl rfl ?_; clear HF ac; intro ac HF
  refine dx_p (i := 1) HF rfl (by kernel_rfl) (by kernel_rfl) (by kernel_rfl) (by decide) (fun _ _ _ h => h) (fun _ => HH) (yl_len_slice Tryd.underlying22 rfl) rfl rfl ?_; clear HF ac; intro ac HF
  refine dx_p (i := 2) HF rfl (by kernel_rfl) (by kernel_rfl) (by kernel_rfl) (by decide) (fun _ _ _ h => h) (fun _ => HH) (yl_gtr rfl rfl (decide_eq_true (by exact (by omega)))) rfl rfl ?_; clear HF ac; intro ac HF
  refine dx_p (i := 3) HF rfl (by kernel_rfl) (by kernel_rfl) (by kernel_rfl) (by decide) (fun _ _ _ h => h) (fun _ => HH) (yl_move rfl) rfl rfl ?_; clear HF ac; intro ac HF
  refine dx_off (i := 4) HF rfl (by kernel_rfl) (by kernel_rfl) (by kernel_rfl) (by decide) (fun _ _ _ h => h) (fun _ => HH) rfl rfl ?_; clear HF ac; intro ac HF
  refine dx_off (i := 5) HF rfl (by kernel_rfl) (by kernel_rfl) (by kernel_rfl) (by decide) (fun _ _ _ h => h) (fun _ => HH) rfl rfl ?_; clear HF ac; intro ac HF
  refine dx_off (i := 6) HF rfl (by kernel_rfl) (by kernel_rfl) (by kernel_rfl) (by decide) (fun _ _ _ h => h) (fun _ => HH) rfl rfl ?_; clear HF ac; intro ac HF
  refine dx_off (i := 7) HF rfl (by kernel_rfl) (by kernel_rfl) (by kernel_rfl) (by decide) (fun _ _ _ h => h) (fun _ => HH) rfl rfl ?_; clear HF ac; intro ac HF
  refine dx_off (i := 8) HF rfl (by kernel_rfl) (by kernel_rfl) (by kernel_rfl) (by decide) (fun _ _ _ h => h) (fun _ => HH) rfl rfl ?_; clear HF ac; intro ac HF
  refine dx_p (i := 9) HF rfl (by kernel_rfl) (by kernel_rfl) (by kernel_rfl) (by decide) (fun _ _ _ h => h) (fun _ => HH) (yl_pick (b := true) rfl rfl) rfl rfl ?_; clear HF ac; intro ac HF
  refine dx_done (by kernel_rfl) ?_
  clear HH
  refine then_n ?_
  refine cx_true HF rfl ?_
  refine wp_seq ?_
  refine wp_region_lit ?_
  refine sx_y HF HS (ld_sc sc22 rfl rfl rfl) rfl rfl ?_; clear HF ac; intro ac HF
  refine sx_y HF HS (yl_len_slice Tryd.underlying22 rfl) rfl rfl ?_; clear HF ac; intro ac HF
  refine sx_y HF HS (yl_gtr rfl rfl (decide_eq_true (by exact (by omega)))) rfl rfl ?_; clear HF ac; intro ac HF
  refine sx_y HF HS (yl_move rfl) rfl rfl ?_; clear HF ac; intro ac HF
  refine sx_call HF Tryd.func6 (by kernel_rfl) (by kernel_rfl) evs_nil (awake7_any w (hL.below HS.kp) (Nat.le_trans h2 HS.kp.size)) rfl rfl ?_; clear HF ac
  rintro _ w ⟨rfl, k1⟩
  refine ⟨_, rfl, fun ac HF => ?_⟩
  replace HS := HS.call k1
  clear k1
  refine sx_y HF HS (yl_pick (b := true) rfl rfl) rfl rfl ?_; clear HF ac; intro ac HF
  refine sx_ef0 HF (ef_store HS sz4 rfl rfl rfl) rfl ?_; clear HS; rintro _ w HS
  refine wpList_nil ?_
  refine then_n ?_
  refine wp_ret ?_
  refine then_r ?_
  exact leave0 HF (rt1 rfl HF.fr HS ⟨⟨_, rfl⟩, ld_sc sc4 rfl rfl rfl⟩ ⟨rfl, HS.kp⟩)

set_option maxRecDepth 100000 in
set_option maxHeartbeats 1000000 in
theorem walk_all (l : List Hsh) (a : Option Addr) (q : Nat) (stop : Int) (w0 : World) (hr : Rd w0 a l.length q 32 (hsc l)) (hl : l.length ≤ 70) (hL : Laid w0) (h2 : 2 ≤ w0.heap.size) :
    Calls Tryd.prog 3 #[.slice a l.length q, .int .i64 stop] w0 fun e w' => e = .returned (.bool true) ∧ Kp [] w0 w' := by
  have hlm := hr.lim
  refine calls_st (F := []) (args := [.slice a l.length q, .int .i64 stop]) Tryd.func3 rfl (n := 76) rfl rfl ?_
  intro ac w HF HS
  refine wp_calm ?_
  refine wp_seq ?_
  refine wp_region_lit ?_
  refine sx_ef HF (ef_box (n := 1) HS rfl) rfl rfl ?_; clear HF HS ac; rintro _ w ac ⟨g2, rfl, HS⟩ HF
  refine sx_ef HF (ef_box (n := 1) HS rfl) rfl rfl ?_; clear HF HS ac; rintro _ w ac ⟨g3, rfl, HS⟩ HF
  refine sx_ef HF (ef_alloc HS ze4) rfl rfl ?_; clear HF HS ac; rintro _ w ac ⟨g4, rfl, HS⟩ HF
  refine wpList_nil ?_
  refine then_n ?_
  refine wp_seq ?_
  refine wp_seq ?_
  refine dx_region 10 (by kernel_rfl) HS.drew (fun _ h => h) ?_; clear HS; intro w HS
  have HH := HS
  refine dx_k (i := 0) HF rfl (by kernel_rfl) (by kernel_rfl) (by kernel_rfl) (by kernel_rfl) (by kernel_rfl) (fun _ _ _ h => h) HH (ld_sc sc22 rfl rfl rfl) rfl rfl ?_; clear HF ac; intro ac HF
  refine dx_p (i := 1) HF rfl (by kernel_rfl) (by kernel_rfl) (by kernel_rfl) (by decide) (fun _ _ _ h => h) (fun _ => HH) (yl_len_slice Tryd.underlying22 rfl) rfl rfl ?_; clear HF ac; intro ac HF
  refine dx_p (i := 2) HF rfl (by kernel_rfl) (by kernel_rfl) (by kernel_rfl) (by decide) (fun _ _ _ h => h) (fun _ => HH) (yl_gtr rfl rfl (decide_eq_false (by exact (by omega)))) rfl rfl ?_; clear HF ac; intro ac HF
  refine dx_p (i := 3) HF rfl (by kernel_rfl) (by kernel_rfl) (by kernel_rfl) (by decide) (fun _ _ _ h => h) (fun _ => HH) (yl_move rfl) rfl rfl ?_; clear HF ac; intro ac HF
  refine dx_k (i := 4) HF rfl (by kernel_rfl) (by kernel_rfl) (by kernel_rfl) (by kernel_rfl) (by kernel_rfl) (fun _ _ _ h => h) HH (ld_sc sc22 rfl rfl rfl) rfl rfl ?_; clear HF ac; intro ac HF
  refine dx_k (i := 6) HF rfl (by kernel_rfl) (by kernel_rfl) (by kernel_rfl) (by kernel_rfl) (by kernel_rfl) (fun _ _ _ h => h) HH (ld_sc sc22 rfl rfl rfl) rfl rfl ?_; clear HF ac; intro ac HF
  refine dx_one (i := 5) (by kernel_rfl) ?_
  refine op_call (i := 5) HF rfl Tryd.func4 (by kernel_rfl) (by kernel_rfl) (evs_cons rfl evs_nil) (root_any l a q w (hr.below HS.kp) (hL.below HS.kp) (Nat.le_trans h2 HS.kp.size)) rfl rfl ?_; clear HF ac
  rintro _ w ⟨rfl, k1⟩
  refine ⟨_, rfl, fun ac HF => ?_⟩
  replace HH := HH.call k1
  replace HS := HS.call k1
  clear k1
  refine ⟨fun _ => HH, ?_⟩
  refine dx_one (i := 7) (by kernel_rfl) ?_
  refine op_call (i := 7) HF rfl Tryd.func5 (by kernel_rfl) (by kernel_rfl) (evs_cons rfl evs_nil) (root7_all l a q w (hr.below HS.kp) (by omega) (hL.below HS.kp) (Nat.le_trans h2 HS.kp.size)) rfl rfl ?_; clear HF ac
  rintro _ w ⟨rfl, k1⟩
  refine ⟨_, rfl, fun ac HF => ?_⟩
  replace HH := HH.call k1
  replace HS := HS.call k1
  clear k1
  refine ⟨fun _ => HH, ?_⟩
  refine dx_p (i := 8) HF rfl (by kernel_rfl) (by kernel_rfl) (by kernel_rfl) (by decide) (fun _ _ _ h => h) (fun _ => HH) (Tryd.yl_neH rfl rfl (decide_eq_false (by exact (fun h => h rfl)))) rfl rfl ?_; clear HF ac; intro ac HF
  refine dx_p (i := 9) HF rfl (by kernel_rfl) (by kernel_rfl) (by kernel_rfl) (by decide) (fun _ _ _ h => h) (fun _ => HH) (yl_pick (b := false) rfl rfl) rfl rfl ?_; clear HF ac; intro ac HF
  refine dx_done (by kernel_rfl) ?_
  clear HH
  refine then_n ?_
  refine cx_false HF rfl ?_
  refine wp_skip ?_
  refine then_n ?_
  refine wp_seq ?_
  refine wp_region_lit ?_
  refine sx_ef HF (ef_alloc HS ze3) rfl rfl ?_; clear HF HS ac; rintro _ w ac ⟨g5, rfl, HS⟩ HF
  refine sx_ef0 HF (ef_store HS sz3 rfl rfl rfl) rfl ?_; clear HS; rintro _ w HS
  refine wpList_nil ?_
  refine then_n ?_
  refine wp_seq ?_
  refine wp_seq ?_
  refine wp_region_lit ?_
  refine sx_y HF HS (ld_sc sc22 rfl rfl rfl) rfl rfl ?_; clear HF ac; intro ac HF
  refine sx_call HF Tryd.func7 (by kernel_rfl) (by kernel_rfl) (evs_cons rfl evs_nil) (each_any a l.length q w) rfl rfl ?_; clear HF ac
  rintro _ w ⟨g9, rfl, k1⟩
  refine ⟨_, rfl, fun ac HF => ?_⟩
  replace HS : St [] w0 (⟨g9, sgA [(1, .slice a l.length q)], 22⟩ :: [⟨g5, sgA [(1, .int .i64 0)], 3⟩, ⟨g4, sgA [(1, .bool false)], 4⟩, ⟨g3, sgA [(1, .int .i64 stop)], 3⟩, ⟨g2, sgA [(1, .slice a l.length q)], 22⟩]) [] w := HS.join k1
  clear k1
  refine sx_y HF HS (yl_assign rfl) rfl rfl ?_; clear HF ac; intro ac HF
  refine wpList_nil ?_
  refine then_n ?_
  refine wp_seq ?_
  refine wp_region_lit ?_
  refine sx_y HF HS (yl_move rfl) rfl rfl ?_; clear HF ac; intro ac HF
  refine sx_y HF HS (yl_neFn Tryd.underlying28 rfl rfl) rfl rfl ?_; clear HF ac; intro ac HF
  refine wpList_nil ?_
  refine then_n ?_
  refine cx_true HF rfl ?_
  refine wp_seq ?_
  refine wp_region_lit ?_
  refine sx_y HF HS (yl_move rfl) rfl rfl ?_; clear HF ac; intro ac HF
  refine wpList_nil ?_
  refine then_n ?_
  refine wp_block ?_
  have hk0 : Kp [] w0 w := HS.kp
  have hb9 : w.heap[g9]? = some (.cells (sgA [(1, .slice a l.length q)]) 22 (0, 0)) := HS.blk _ List.mem_cons_self
  have hnd := HS.nd
  have hnew := HS.new
  replace HS : St [] w0 [⟨g5, sgA [(1, .int .i64 ((0 : Nat) : Int))], 3⟩, ⟨g4, sgA [(1, .bool false)], 4⟩, ⟨g3, sgA [(1, .int .i64 stop)], 3⟩, ⟨g2, sgA [(1, .slice a l.length q)], 22⟩] [] w := HS.sub (List.Sublist.cons _ (List.Sublist.refl _)) (List.Sublist.refl _)
  have hRs : ∀ y ∈ ids [⟨g5, sgA [(1, .int .i64 ((0 : Nat) : Int))], 3⟩, ⟨g4, sgA [(1, .bool false)], 4⟩, ⟨g3, sgA [(1, .int .i64 stop)], 3⟩, ⟨g2, sgA [(1, .slice a l.length q)], 22⟩] [], y ∉ List.range 2 ++ (g9 :: if l.length = 0 then [] else aF a) := by
    intro y hy hh
    have h3 := HS.new y hy
    simp only [List.not_mem_nil, or_false] at h3
    rcases List.mem_append.1 hh with hh | hh
    · have := List.mem_range.1 hh; omega
    · rcases List.mem_cons.1 hh with rfl | hh
      · simp [ids] at hnd hy
        omega
      · by_cases h0 : l.length = 0
        · rw [if_pos h0] at hh; cases hh
        · rw [if_neg h0] at hh
          have := hr.lt (by rw [hsc_length]; omega) y hh
          omega
  have hRl : ∀ y ∈ List.range 2 ++ (g9 :: if l.length = 0 then [] else aF a), y < w.heap.size := by
    intro y hh
    have h3 := hk0.size
    rcases List.mem_append.1 hh with hh | hh
    · have := List.mem_range.1 hh; omega
    · rcases List.mem_cons.1 hh with rfl | hh
      · exact (Array.getElem?_eq_some_iff.1 hb9).1
      · by_cases h0 : l.length = 0
        · rw [if_pos h0] at hh; cases hh
        · rw [if_neg h0] at hh
          have := hr.lt (by rw [hsc_length]; omega) y hh
          omega
  replace HF := HF.sub (m' := [(2, _), (3, _), (4, _), (5, _), (29, _)]) (by repeat (first | exact ag_nil | refine ag_cons rfl ?_))
  refine wp_range (B := w0.heap.size) (args := fun k => [.int .i64 (k : Int), hv (rootH (l.take k))]) (N := (l.length + 1)) (Rs := (List.range 2 ++ (g9 :: if l.length = 0 then [] else aF a))) HF HS Marks.nil HS.kp.size rfl Tryd.func13 (by kernel_rfl) (by kernel_rfl) (fun w1 k => each_iter l g9 a q w1 (by omega) (by rw [k.block g9 (Array.getElem?_eq_some_iff.1 hb9).1 (by simp)]; exact hb9) (hr.below (hk0.trans k (by simp))) (hL.below (hk0.trans k (by simp))) (Nat.le_trans h2 (hk0.trans k (by simp)).size)) hRs hRl (fun _ => rfl) (by kernel_rfl) (fun _ => rfl) (fun k L R => L = [⟨g5, sgA [(1, .int .i64 (k : Int))], 3⟩, ⟨g4, sgA [(1, .bool false)], 4⟩, ⟨g3, sgA [(1, .int .i64 stop)], 3⟩, ⟨g2, sgA [(1, .slice a l.length q)], 22⟩] ∧ R = [] ∧ ¬ (1 ≤ stop ∧ stop ≤ k)) (fun c L R => ∃ j : Nat, c = .exit 0 ∧ stop = j ∧ 1 ≤ j ∧ j ≤ l.length + 1 ∧ L = [⟨g5, sgA [(1, .int .i64 (j : Int))], 3⟩, ⟨g4, sgA [(1, .bool false)], 4⟩, ⟨g3, sgA [(1, .int .i64 stop)], 3⟩, ⟨g2, sgA [(1, .slice a l.length q)], 22⟩] ∧ R = []) ⟨rfl, rfl, by omega⟩ ?_ ?_ ?_
  · rintro lr k L1 R1 ac Fb wb w hw hFb hk ⟨rfl, rfl, hst⟩ HF HS HK; clear hw hFb
    replace HF := HF.sub (m' := [(30, _), (31, _), (2, _), (3, _), (4, _), (5, _), (29, _)]) (by repeat (first | exact ag_nil | refine ag_cons rfl ?_))
    refine wp_seq ?_
    refine wp_region_lit ?_
    refine sx_y HF HS (yl_assign rfl) rfl rfl ?_; clear HF ac; intro ac HF
    refine wpList_nil ?_
    refine then_n ?_
    refine wp_region_lit ?_
    refine sx_ef HF (ef_alloc HS ze24) rfl rfl ?_; clear HF HS ac; rintro _ w ac ⟨g8, rfl, HS⟩ HF
    refine sx_ef0 HF (ef_store HS sz24 rfl rfl rfl) rfl ?_; clear HS; rintro _ w HS
    refine wpList_nil ?_
    refine then_n ?_
    refine ⟨_, _, _, HF, HS, ?_⟩; clear HF HS HK
    rintro ac Fb wb w hw hFb HF HS HK; clear hw hFb
    refine wp_block ?_
    refine wp_seq ?_
    refine wp_seq ?_
    refine dx_region 17 (by kernel_rfl) HS.drew (fun _ h => h) ?_; clear HS; intro w HS
    have HH := HS
    refine dx_p (i := 0) HF rfl (by kernel_rfl) (by kernel_rfl) (by kernel_rfl) (by decide) (fun _ _ _ h => h) (fun _ => HH) (yl_move rfl) rfl rfl ?_; clear HF ac; intro ac HF
    refine dx_k (i := 1) HF rfl (by kernel_rfl) (by kernel_rfl) (by kernel_rfl) (by kernel_rfl) (by kernel_rfl) (fun _ _ _ h => h) HH (ld_sc sc3 rfl rfl rfl) rfl rfl ?_; clear HF ac; intro ac HF
    refine dx_p (i := 2) HF rfl (by kernel_rfl) (by kernel_rfl) (by kernel_rfl) (by decide) (fun _ _ _ h => h) (fun _ => HH) (yl_neq rfl rfl (decide_eq_false (by omega))) rfl rfl ?_; clear HF ac; intro ac HF
    refine dx_p (i := 3) HF rfl (by kernel_rfl) (by kernel_rfl) (by kernel_rfl) (by decide) (fun _ _ _ h => h) (fun _ => HH) (yl_move rfl) rfl rfl ?_; clear HF ac; intro ac HF
    refine dx_p (i := 4) HF rfl (by kernel_rfl) (by kernel_rfl) (by kernel_rfl) (by decide) (fun _ _ _ h => h) (fun _ => HH) (yl_move rfl) rfl rfl ?_; clear HF ac; intro ac HF
    refine dx_k (i := 5) HF rfl (by kernel_rfl) (by kernel_rfl) (by kernel_rfl) (by kernel_rfl) (by kernel_rfl) (fun _ _ _ h => h) HH (ld_sc sc22 rfl rfl rfl) rfl rfl ?_; clear HF ac; intro ac HF
    refine dx_p (i := 6) HF rfl (by kernel_rfl) (by kernel_rfl) (by kernel_rfl) (by decide) (fun _ _ _ h => h) (fun _ => HH) (yl_len_slice Tryd.underlying22 rfl) rfl rfl ?_; clear HF ac; intro ac HF
    refine dx_p (i := 7) HF rfl (by kernel_rfl) (by kernel_rfl) (by kernel_rfl) (by decide) (fun _ _ _ h => h) (fun _ => HH) (yl_gtr rfl rfl (decide_eq_false (by exact (by omega)))) rfl rfl ?_; clear HF ac; intro ac HF
    refine dx_p (i := 8) HF rfl (by kernel_rfl) (by kernel_rfl) (by kernel_rfl) (by decide) (fun _ _ _ h => h) (fun _ => HH) (yl_pick (b := false) rfl rfl) rfl rfl ?_; clear HF ac; intro ac HF
    refine dx_p (i := 9) HF rfl (by kernel_rfl) (by kernel_rfl) (by kernel_rfl) (by decide) (fun _ _ _ h => h) (fun _ => HH) (yl_move rfl) rfl rfl ?_; clear HF ac; intro ac HF
    refine dx_k (i := 10) HF rfl (by kernel_rfl) (by kernel_rfl) (by kernel_rfl) (by kernel_rfl) (by kernel_rfl) (fun _ _ _ h => h) HH (ld_ag ag24 rfl rfl) rfl rfl ?_; clear HF ac; intro ac HF
    refine dx_k (i := 11) HF rfl (by kernel_rfl) (by kernel_rfl) (by kernel_rfl) (by kernel_rfl) (by kernel_rfl) (fun _ _ _ h => h) HH (ld_sc sc22 rfl rfl rfl) rfl rfl ?_; clear HF ac; intro ac HF
    refine dx_p (i := 12) HF rfl (by kernel_rfl) (by kernel_rfl) (by kernel_rfl) (by decide) (fun _ _ _ h => h) (fun _ => HH) (yl_move rfl) rfl rfl ?_; clear HF ac; intro ac HF
    refine dx_p (i := 13) HF rfl (by kernel_rfl) (by kernel_rfl) (by kernel_rfl) (by decide) (fun _ _ _ h => h) (fun _ => HH) (sl_hi (r := (l.take k).length) Tryd.underlying22 sz24 rfl rfl (by omega) (by rw [List.length_take]; omega)) rfl rfl ?_; clear HF ac; intro ac HF
    refine dx_one (i := 14) (by kernel_rfl) ?_
    refine op_call (i := 14) HF rfl Tryd.func5 (by kernel_rfl) (by kernel_rfl) (evs_cons rfl evs_nil) (root7_all (l.take k) a q w ((hr.takeH k (by omega)).below (HK _ HS.kp)) (by rw [List.length_take]; omega) (hL.below (HK _ HS.kp)) (Nat.le_trans h2 (HK _ HS.kp).size)) rfl rfl ?_; clear HF ac
    rintro _ w ⟨rfl, k1⟩
    refine ⟨_, rfl, fun ac HF => ?_⟩
    replace HH := HH.call k1
    replace HS := HS.call k1
    clear k1
    refine ⟨fun _ => HH, ?_⟩
    refine dx_p (i := 15) HF rfl (by kernel_rfl) (by kernel_rfl) (by kernel_rfl) (by decide) (fun _ _ _ h => h) (fun _ => HH) (Tryd.yl_neH rfl rfl (decide_eq_false (by exact (fun h => h rfl)))) rfl rfl ?_; clear HF ac; intro ac HF
    refine dx_p (i := 16) HF rfl (by kernel_rfl) (by kernel_rfl) (by kernel_rfl) (by decide) (fun _ _ _ h => h) (fun _ => HH) (yl_pick (b := false) rfl rfl) rfl rfl ?_; clear HF ac; intro ac HF
    refine dx_done (by kernel_rfl) ?_
    clear HH
    refine then_n ?_
    refine cx_false HF rfl ?_
    refine wp_skip ?_
    refine then_n ?_
    refine wp_seq ?_
    refine wp_region_lit ?_
    refine sx_y HF HS (ld_sc sc3 rfl rfl rfl) rfl rfl ?_; clear HF ac; intro ac HF
    refine sx_y HF HS (yl_add64 (r := ((k + 1 : Nat) : Int)) rfl rfl (by omega) (by omega)) rfl rfl ?_; clear HF ac; intro ac HF
    refine sx_ef0 HF (ef_store HS sz3 rfl rfl rfl) rfl ?_; clear HS; rintro _ w HS
    refine wpList_nil ?_
    refine then_n ?_
    refine wp_seq ?_
    refine wp_region_lit ?_
    refine sx_y HF HS (ld_sc sc3 rfl rfl rfl) rfl rfl ?_; clear HF ac; intro ac HF
    refine sx_y HF HS (ld_sc sc3 rfl rfl rfl) rfl rfl ?_; clear HF ac; intro ac HF
    refine sx_dec HF HS (yl_eql rfl rfl rfl) rfl rfl ?_ ?_ <;> clear HF ac <;> intro h12x2 ac HF
    · refine wpList_nil ?_
      refine then_n ?_
      refine cx_true HF rfl ?_
      refine wp_exit ?_
      refine blk_miss (by decide) ?_
      refine rq_x ?_
      exact ⟨_, _, ⟨k + 1, rfl, by omega, by omega, by omega, rfl, rfl⟩, HS.d1⟩
    · refine wpList_nil ?_
      refine then_n ?_
      refine cx_false HF rfl ?_
      refine wp_skip ?_
      refine blk_n ?_
      refine rq_n ?_
      exact ⟨_, _, ⟨rfl, rfl, by omega⟩, HS.d1⟩
  · rintro Db L1 R1 ac Fb wb w hw hFb ⟨rfl, rfl, hst⟩ HF HS HK HN HM hsz; clear hw hFb
    refine blk_n ?_
    refine then_n ?_
    refine wp_seq ?_
    refine wp_seq ?_
    refine wp_region_lit ?_
    refine sx_y HF HS (ld_sc sc3 rfl rfl rfl) rfl rfl ?_; clear HF ac; intro ac HF
    refine sx_dec HF HS (yl_geq rfl rfl rfl) rfl rfl ?_ ?_ <;> clear HF ac <;> intro h13x1 ac HF
    · refine sx_y HF HS (yl_move rfl) rfl rfl ?_; clear HF ac; intro ac HF
      refine sx_y HF HS (ld_sc sc3 rfl rfl rfl) rfl rfl ?_; clear HF ac; intro ac HF
      refine sx_y HF HS (ld_sc sc22 rfl rfl rfl) rfl rfl ?_; clear HF ac; intro ac HF
      refine sx_y HF HS (yl_len_slice Tryd.underlying22 rfl) rfl rfl ?_; clear HF ac; intro ac HF
      refine sx_y HF HS (yl_leq rfl rfl (decide_eq_false (by omega))) rfl rfl ?_; clear HF ac; intro ac HF
      refine sx_y HF HS (yl_pick (b := true) rfl rfl) rfl rfl ?_; clear HF ac; intro ac HF
      refine wpList_nil ?_
      refine then_n ?_
      refine cx_false HF rfl ?_
      refine wp_skip ?_
      refine then_n ?_
      refine wp_seq ?_
      refine wp_region_lit ?_
      refine sx_y HF HS (ld_sc sc3 rfl rfl rfl) rfl rfl ?_; clear HF ac; intro ac HF
      refine sx_y HF HS (ld_sc sc22 rfl rfl rfl) rfl rfl ?_; clear HF ac; intro ac HF
      refine sx_y HF HS (yl_len_slice Tryd.underlying22 rfl) rfl rfl ?_; clear HF ac; intro ac HF
      refine sx_y HF HS (yl_add64 (r := ((l.length + 1 : Nat) : Int)) rfl rfl (by omega) (by omega)) rfl rfl ?_; clear HF ac; intro ac HF
      refine sx_y HF HS (yl_eql rfl rfl (decide_eq_true (by exact (by omega)))) rfl rfl ?_; clear HF ac; intro ac HF
      refine sx_y HF HS (yl_move rfl) rfl rfl ?_; clear HF ac; intro ac HF
      refine sx_call HF Tryd.func6 (by kernel_rfl) (by kernel_rfl) evs_nil (awake7_any w (hL.below (HK _ HS.kp)) (Nat.le_trans h2 (HK _ HS.kp).size)) rfl rfl ?_; clear HF ac
      rintro _ w ⟨rfl, k1⟩
      refine ⟨_, rfl, fun ac HF => ?_⟩
      replace HS := HS.call k1
      clear k1
      refine sx_y HF HS (yl_pick (b := true) rfl rfl) rfl rfl ?_; clear HF ac; intro ac HF
      refine sx_ef0 HF (ef_store HS sz4 rfl rfl rfl) rfl ?_; clear HS; rintro _ w HS
      refine wpList_nil ?_
      refine then_n ?_
      refine wp_ret ?_
      exact leave HF (fun b hb => HM _ HS.kp b hb) (HS.back hsz HN (HK _ HS.kp)) fun w HS => rt1 rfl HF.fr HS ⟨⟨_, rfl⟩, ld_sc sc4 rfl rfl rfl⟩ ⟨rfl, HS.kp⟩
    · refine sx_y HF HS (yl_move rfl) rfl rfl ?_; clear HF ac; intro ac HF
      refine sx_off HF rfl rfl ?_; clear HF ac; intro ac HF
      refine sx_off HF rfl rfl ?_; clear HF ac; intro ac HF
      refine sx_off HF rfl rfl ?_; clear HF ac; intro ac HF
      refine sx_off HF rfl rfl ?_; clear HF ac; intro ac HF
      refine sx_y HF HS (yl_pick (b := false) rfl rfl) rfl rfl ?_; clear HF ac; intro ac HF
      refine wpList_nil ?_
      refine then_n ?_
      refine cx_false HF rfl ?_
      refine wp_skip ?_
      refine then_n ?_
      refine wp_seq ?_
      refine wp_region_lit ?_
      refine sx_y HF HS (ld_sc sc3 rfl rfl rfl) rfl rfl ?_; clear HF ac; intro ac HF
      refine sx_y HF HS (ld_sc sc22 rfl rfl rfl) rfl rfl ?_; clear HF ac; intro ac HF
      refine sx_y HF HS (yl_len_slice Tryd.underlying22 rfl) rfl rfl ?_; clear HF ac; intro ac HF
      refine sx_y HF HS (yl_add64 (r := ((l.length + 1 : Nat) : Int)) rfl rfl (by omega) (by omega)) rfl rfl ?_; clear HF ac; intro ac HF
      refine sx_y HF HS (yl_eql rfl rfl (decide_eq_true (by exact (by omega)))) rfl rfl ?_; clear HF ac; intro ac HF
      refine sx_y HF HS (yl_move rfl) rfl rfl ?_; clear HF ac; intro ac HF
      refine sx_call HF Tryd.func6 (by kernel_rfl) (by kernel_rfl) evs_nil (awake7_any w (hL.below (HK _ HS.kp)) (Nat.le_trans h2 (HK _ HS.kp).size)) rfl rfl ?_; clear HF ac
      rintro _ w ⟨rfl, k1⟩
      refine ⟨_, rfl, fun ac HF => ?_⟩
      replace HS := HS.call k1
      clear k1
      refine sx_y HF HS (yl_pick (b := true) rfl rfl) rfl rfl ?_; clear HF ac; intro ac HF
      refine sx_ef0 HF (ef_store HS sz4 rfl rfl rfl) rfl ?_; clear HS; rintro _ w HS
      refine wpList_nil ?_
      refine then_n ?_
      refine wp_ret ?_
      exact leave HF (fun b hb => HM _ HS.kp b hb) (HS.back hsz HN (HK _ HS.kp)) fun w HS => rt1 rfl HF.fr HS ⟨⟨_, rfl⟩, ld_sc sc4 rfl rfl rfl⟩ ⟨rfl, HS.kp⟩
  · rintro c Db L1 R1 ac Fb wb w hw hFb ⟨j, rfl, hj, hj1, hj2, rfl, rfl⟩ HF HS HK HN HM hsz; clear hw hFb
    refine wp_exit ?_
    refine blk_hit ?_
    refine then_n ?_
    refine wp_seq ?_
    refine wp_seq ?_
    refine wp_region_lit ?_
    refine sx_y HF HS (ld_sc sc3 rfl rfl rfl) rfl rfl ?_; clear HF ac; intro ac HF
    refine sx_y HF HS (yl_geq rfl rfl (decide_eq_true (by omega))) rfl rfl ?_; clear HF ac; intro ac HF
    refine sx_y HF HS (yl_move rfl) rfl rfl ?_; clear HF ac; intro ac HF
    refine sx_y HF HS (ld_sc sc3 rfl rfl rfl) rfl rfl ?_; clear HF ac; intro ac HF
    refine sx_y HF HS (ld_sc sc22 rfl rfl rfl) rfl rfl ?_; clear HF ac; intro ac HF
    refine sx_y HF HS (yl_len_slice Tryd.underlying22 rfl) rfl rfl ?_; clear HF ac; intro ac HF
    refine sx_dec HF HS (yl_leq rfl rfl rfl) rfl rfl ?_ ?_ <;> clear HF ac <;> intro h13x6 ac HF
    · refine sx_y HF HS (yl_pick (b := true) rfl rfl) rfl rfl ?_; clear HF ac; intro ac HF
      refine wpList_nil ?_
      refine then_n ?_
      refine cx_true HF rfl ?_
      refine wp_seq ?_
      refine wp_region_lit ?_
      refine sx_y HF HS (ld_sc sc3 rfl rfl rfl) rfl rfl ?_; clear HF ac; intro ac HF
      refine sx_y HF HS (ld_sc sc3 rfl rfl rfl) rfl rfl ?_; clear HF ac; intro ac HF
      refine sx_y HF HS (yl_eql rfl rfl (decide_eq_true (by omega))) rfl rfl ?_; clear HF ac; intro ac HF
      refine sx_y HF HS (yl_move rfl) rfl rfl ?_; clear HF ac; intro ac HF
      refine sx_call HF Tryd.func6 (by kernel_rfl) (by kernel_rfl) evs_nil (awake7_any w (hL.below (HK _ HS.kp)) (Nat.le_trans h2 (HK _ HS.kp).size)) rfl rfl ?_; clear HF ac
      rintro _ w ⟨rfl, k1⟩
      refine ⟨_, rfl, fun ac HF => ?_⟩
      replace HS := HS.call k1
      clear k1
      refine sx_y HF HS (yl_pick (b := true) rfl rfl) rfl rfl ?_; clear HF ac; intro ac HF
      refine sx_ef0 HF (ef_store HS sz4 rfl rfl rfl) rfl ?_; clear HS; rintro _ w HS
      refine wpList_nil ?_
      refine then_n ?_
      refine wp_ret ?_
      refine then_r ?_
      exact leave HF (fun b hb => HM _ HS.kp b hb) (HS.back hsz HN (HK _ HS.kp)) fun w HS => rt1 rfl HF.fr HS ⟨⟨_, rfl⟩, ld_sc sc4 rfl rfl rfl⟩ ⟨rfl, HS.kp⟩
    · refine sx_y HF HS (yl_pick (b := true) rfl rfl) rfl rfl ?_; clear HF ac; intro ac HF
      refine wpList_nil ?_
      refine then_n ?_
      refine cx_false HF rfl ?_
      refine wp_skip ?_
      refine then_n ?_
      refine wp_seq ?_
      refine wp_region_lit ?_
      refine sx_y HF HS (ld_sc sc3 rfl rfl rfl) rfl rfl ?_; clear HF ac; intro ac HF
      refine sx_y HF HS (ld_sc sc22 rfl rfl rfl) rfl rfl ?_; clear HF ac; intro ac HF
      refine sx_y HF HS (yl_len_slice Tryd.underlying22 rfl) rfl rfl ?_; clear HF ac; intro ac HF
      refine sx_y HF HS (yl_add64 (r := ((l.length + 1 : Nat) : Int)) rfl rfl (by omega) (by omega)) rfl rfl ?_; clear HF ac; intro ac HF
      refine sx_y HF HS (yl_eql rfl rfl (decide_eq_true (by exact (by omega)))) rfl rfl ?_; clear HF ac; intro ac HF
      refine sx_y HF HS (yl_move rfl) rfl rfl ?_; clear HF ac; intro ac HF
      refine sx_call HF Tryd.func6 (by kernel_rfl) (by kernel_rfl) evs_nil (awake7_any w (hL.below (HK _ HS.kp)) (Nat.le_trans h2 (HK _ HS.kp).size)) rfl rfl ?_; clear HF ac
      rintro _ w ⟨rfl, k1⟩
      refine ⟨_, rfl, fun ac HF => ?_⟩
      replace HS := HS.call k1
      clear k1
      refine sx_y HF HS (yl_pick (b := true) rfl rfl) rfl rfl ?_; clear HF ac; intro ac HF
      refine sx_ef0 HF (ef_store HS sz4 rfl rfl rfl) rfl ?_; clear HS; rintro _ w HS
      refine wpList_nil ?_
      refine then_n ?_
      refine wp_ret ?_
      exact leave HF (fun b hb => HM _ HS.kp b hb) (HS.back hsz HN (HK _ HS.kp)) fun w HS => rt1 rfl HF.fr HS ⟨⟨_, rfl⟩, ld_sc sc4 rfl rfl rfl⟩ ⟨rfl, HS.kp⟩

theorem walk (l : List Hsh) (a : Option Addr) (q : Nat) (stop : Int) (w0 : World) (hr : Rd w0 a l.length q 32 (hsc l))  (hL : Laid w0) (h2 : 2 ≤ w0.heap.size) :
    Calls Tryd.prog 3 #[.slice a l.length q, .int .i64 stop] w0 fun e w' => e = .returned (.bool true) ∧ Kp [] w0 w' := by
  by_cases hl : l.length ≤ 70
  · exact walk_all l a q stop w0 hr hl hL h2
  · exact walk_big l a q stop w0 hr (by omega) hL h2

end Go.Proofs.YtgfppmnpccaloaaDoor.R
