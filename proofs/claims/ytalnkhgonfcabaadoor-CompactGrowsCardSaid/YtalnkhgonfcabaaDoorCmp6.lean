/-
  compact's Root of any range; law09's fixed answer. (Printed by sx_cmp6.py.)
-/
import Derived.Test.YtalnkhgonfcabaaDoorCmp4
import Derived.Test.YtalnkhgonfcabaaDoorCmp5
import Derived.Test.YtalnkhgonfcabaaDoorRoot09
namespace Go.Proofs.YtalnkhgonfcabaaDoor
open Go.RowKit

/-! ### Types -/
namespace Cmp6
theorem ag33 : AgT Tryd.prog 33 32 := AgT.mk' Tryd.underlying33 rfl (by kernel_rfl)
theorem fd101x0 : FdT Tryd.prog 101 0 0 := FdT.mk' (k := 0) Tryd.underlying101 (by kernel_rfl)
theorem sc3 : ScT Tryd.prog 3 := ScT.mk' Tryd.underlying3 rfl (by kernel_rfl)
theorem sl22 : SlT Tryd.prog 22 33 Tryd.t33 (hv zeroH) 32 32 := ⟨Tryd.underlying22, by kernel_rfl, by kernel_rfl, rfl, rfl, hvA_size _, by decide⟩
theorem sz5 : (Tryd.prog.info? 5).map (·.size) = some 1 := by kernel_rfl
theorem sz33 : (Tryd.prog.info? 33).map (·.size) = some 32 := by kernel_rfl
theorem ze33 : ZeS Tryd.prog 33 [(32, hv zeroH)] := ⟨hv zeroH, ZeT.mk' (by kernel_rfl), (sgA_h zeroH).symm⟩
theorem zt33 : ZeT Tryd.prog 33 (hv zeroH) := ZeT.mk' (by kernel_rfl)
end Cmp6
open Go.Proofs.YtalnkhgonfcabaaDoor.Cmp6

set_option maxRecDepth 100000 in
theorem root9_zero (g : Nat) (a : Option Addr) (c : Nat) (w0 : World) (hg : RgA w0 g 0 [] a c) (hL : Laid w0) (h2 : 4 ≤ w0.heap.size) :
    Calls Tryd.prog 23 #[.pointer (some ⟨g, 0, none⟩)] w0 fun e w' => e = .returned (hv (peaksR [])) ∧ Kp [] w0 w' := by
  refine calls_stL (args := [.pointer (some ⟨g, 0, none⟩)]) (St.ofBlk hg.b) Tryd.func23 rfl (n := 39) rfl rfl ?_
  intro ac w HF HS
  refine wp_seq ?_
  refine wp_region_lit ?_
  refine sx_ef HF (ef_alloc HS ze33) rfl rfl ?_; clear HF HS ac; rintro _ w ac ⟨g2, rfl, HS⟩ HF
  refine wpList_nil ?_
  refine then_n ?_
  refine wp_seq ?_
  refine wp_seq ?_
  refine wp_region_lit ?_
  refine sx_y HF HS (yl_move rfl) rfl rfl ?_; clear HF ac; intro ac HF
  refine sx_y HF HS (yl_nilCheck rfl) rfl rfl ?_; clear HF ac; intro ac HF
  refine sx_y HF HS (fa_st fd101x0 rfl) rfl rfl ?_; clear HF ac; intro ac HF
  refine sx_y HF HS (ld_sc sc3 rfl rfl rfl) rfl rfl ?_; clear HF ac; intro ac HF
  refine sx_y HF HS (yl_eql rfl rfl (decide_eq_true (by omega))) rfl rfl ?_; clear HF ac; intro ac HF
  refine wpList_nil ?_
  refine then_n ?_
  refine cx_true HF rfl ?_
  refine wp_seq ?_
  refine wp_region_lit ?_
  refine sx_call HF Tryd.func69 (by kernel_rfl) (by kernel_rfl) (evs_cons rfl evs_nil) (sum_any none 0 [] w (nil_rd w 1) (hL.below (kp_own1 HS hg.b)) (Nat.le_trans h2 HS.kp.size)) rfl rfl ?_; clear HF ac
  rintro _ w ⟨rfl, k1⟩
  refine ⟨_, rfl, fun ac HF => ?_⟩
  replace HS := HS.call k1
  clear k1
  refine sx_ef0 HF (ef_store HS sz33 rfl rfl rfl) rfl ?_; clear HS; rintro _ w HS
  refine wpList_nil ?_
  refine then_n ?_
  refine wp_ret ?_
  refine then_r ?_
  exact rt1 rfl HF HS ⟨⟨_, rfl⟩, ld_ag ag33 rfl rfl⟩ ⟨rfl, kp_own1 HS hg.b⟩

theorem pop_pos (n : Nat) (h : n ≠ 0) (hb : n < 18446744073709551616) : 1 ≤ pop n := by
  obtain ⟨m, rfl⟩ : ∃ m, n = m + 1 := ⟨n - 1, by omega⟩
  have h1 := tons_pop 64 m (by omega)
  have h2 := tons_le m (by omega)
  omega
theorem root9_any (g n : Nat) (ps : List Hsh) (a : Option Addr) (c : Nat) (w0 : World) (hg : RgA w0 g n ps a c) (hp : ps.length = pop n) (hn : n < 18446744073709551616) (hL : Laid w0) (h2 : 4 ≤ w0.heap.size) :
    Calls Tryd.prog 23 #[.pointer (some ⟨g, 0, none⟩)] w0 fun e w' => e = .returned (hv (peaksR ps)) ∧ Kp [] w0 w' := by
  by_cases h0 : n = 0
  · subst h0
    obtain rfl : ps = [] := List.eq_nil_of_length_eq_zero hp
    exact root9_zero g a c w0 hg hL h2
  · exact R.root9_some g n ps a c w0 hg h0 (by have := pop_pos n h0 hn; omega) hL h2

set_option maxRecDepth 100000 in
theorem awake9_any (w0 : World) (hT : Tab w0) (hL : Laid w0) (h2 : 4 ≤ w0.heap.size) : Calls Tryd.prog 15 #[] w0 fun e w' => e = .returned (.bool true) ∧ Kp [] w0 w' := by
  refine calls_st (F := []) (args := []) Tryd.func15 rfl (n := 41) rfl rfl ?_
  intro ac w HF HS
  refine wp_seq ?_
  refine wp_region_lit ?_
  refine sx_y HF HS (yl_assign rfl) rfl rfl ?_; clear HF ac; intro ac HF
  refine wpList_nil ?_
  refine then_n ?_
  refine wp_seq ?_
  refine wp_region_lit ?_
  refine sx_call HF Tryd.func16 (by kernel_rfl) (by kernel_rfl) evs_nil (new9_any w) rfl rfl ?_; clear HF ac
  rintro _ w ⟨g5, rfl, k1⟩
  refine ⟨_, rfl, fun ac HF => ?_⟩
  replace HS : St [] w0 [⟨g5, sgA (rgS ((0 : Nat) : Int) none ([] : List Hsh).length 0), 101⟩] [⟨33, 32, none, ([] : List Hsh).length, 0, hsc ([] : List Hsh)⟩] w := HS.join k1
  clear k1
  refine sx_y HF HS (yl_assign rfl) rfl rfl ?_; clear HF ac; intro ac HF
  refine wpList_nil ?_
  refine then_n ?_
  refine wp_seq ?_
  refine wp_region_lit ?_
  refine sx_y HF HS (bd_h1 (b := 1) Tryd.underlying33 sz5 zt33 rfl) rfl rfl ?_; clear HF ac; intro ac HF
  refine sx_y HF HS (bd_h1 (b := 2) Tryd.underlying33 sz5 zt33 rfl) rfl rfl ?_; clear HF ac; intro ac HF
  refine sx_y HF HS (bd_h1 (b := 3) Tryd.underlying33 sz5 zt33 rfl) rfl rfl ?_; clear HF ac; intro ac HF
  refine sx_ef HF (ef_alloc HS ze33) rfl rfl ?_; clear HF HS ac; rintro _ w ac ⟨g2, rfl, HS⟩ HF
  refine sx_ef HF (ef_alloc HS ze33) rfl rfl ?_; clear HF HS ac; rintro _ w ac ⟨g3, rfl, HS⟩ HF
  refine sx_ef HF (ef_alloc HS ze33) rfl rfl ?_; clear HF HS ac; rintro _ w ac ⟨g4, rfl, HS⟩ HF
  refine sx_ef0 HF (ef_store HS sz33 rfl rfl rfl) rfl ?_; clear HS; rintro _ w HS
  refine sx_ef0 HF (ef_store HS sz33 rfl rfl rfl) rfl ?_; clear HS; rintro _ w HS
  refine sx_ef0 HF (ef_store HS sz33 rfl rfl rfl) rfl ?_; clear HS; rintro _ w HS
  obtain ⟨ha, hha⟩ : ∃ x, x = (toH (1 :: List.replicate 31 0)) := ⟨_, rfl⟩
  obtain ⟨hb, hhb⟩ : ∃ x, x = (toH (2 :: List.replicate 31 0)) := ⟨_, rfl⟩
  obtain ⟨hc, hhc⟩ : ∃ x, x = (toH (3 :: List.replicate 31 0)) := ⟨_, rfl⟩
  replace HS : St [] w0 [⟨g4, sgA [(32, hv hc)], 33⟩, ⟨g3, sgA [(32, hv hb)], 33⟩, ⟨g2, sgA [(32, hv ha)], 33⟩, ⟨g5, sgA (rgS ((0 : Nat) : Int) none ([] : List Hsh).length 0), 101⟩] [⟨33, 32, none, ([] : List Hsh).length, 0, hsc ([] : List Hsh)⟩] w := by rw [hha, hhb, hhc]; exact HS
  have hpl : (appT 0 [] [ha, hb, hc]).length = 2 := (appT_len _ _ _ rfl (by simp)).trans (show pop 3 = 2 by decide +kernel)
  have hroot : peaksR (appT 0 [] [ha, hb, hc]) = nodeH (nodeH ha hb) hc := rfl
  refine wpList_nil ?_
  refine then_n ?_
  refine wp_seq ?_
  refine dx_region 33 (by kernel_rfl) HS.drew (fun _ h => h.sub (List.Sublist.cons_cons _ (List.Sublist.cons_cons _ (List.Sublist.cons_cons _ (List.Sublist.cons _ List.Sublist.slnil)))) (List.nil_sublist _)) ?_; clear HS; intro w HS
  have HH := HS.sub (List.Sublist.cons_cons _ (List.Sublist.cons_cons _ (List.Sublist.cons_cons _ (List.Sublist.cons _ List.Sublist.slnil)))) (List.nil_sublist _)
  refine dx_p (i := 0) HF rfl (by kernel_rfl) (by kernel_rfl) (by kernel_rfl) (by decide) (fun _ _ _ h => h) (fun _ => HH) (yl_move rfl) rfl rfl ?_; clear HF ac; intro ac HF
  refine dx_p (i := 1) HF rfl (by kernel_rfl) (by kernel_rfl) (by kernel_rfl) (by decide) (fun _ _ _ h => h) (fun _ => HH) (yl_nePtr Tryd.underlying25 rfl rfl (by exact rfl)) rfl rfl ?_; clear HF ac; intro ac HF
  refine dx_p (i := 2) HF rfl (by kernel_rfl) (by kernel_rfl) (by kernel_rfl) (by decide) (fun _ _ _ h => h) (fun _ => HH) (yl_move rfl) rfl rfl ?_; clear HF ac; intro ac HF
  refine dx_p (i := 3) HF rfl (by kernel_rfl) (by kernel_rfl) (by kernel_rfl) (by decide) (fun _ _ _ h => h) (fun _ => HH) (yl_move rfl) rfl rfl ?_; clear HF ac; intro ac HF
  refine dx_k (i := 4) HF rfl (by kernel_rfl) (by kernel_rfl) (by kernel_rfl) (by kernel_rfl) (by kernel_rfl) (fun _ _ _ h => h) HH (ld_ag ag33 rfl rfl) rfl rfl ?_; clear HF ac; intro ac HF
  refine dx_k (i := 5) HF rfl (by kernel_rfl) (by kernel_rfl) (by kernel_rfl) (by kernel_rfl) (by kernel_rfl) (fun _ _ _ h => h) HH (ld_ag ag33 rfl rfl) rfl rfl ?_; clear HF ac; intro ac HF
  refine dx_k (i := 6) HF rfl (by kernel_rfl) (by kernel_rfl) (by kernel_rfl) (by kernel_rfl) (by kernel_rfl) (fun _ _ _ h => h) HH (ld_ag ag33 rfl rfl) rfl rfl ?_; clear HF ac; intro ac HF
  refine dx_one (i := 7) (by kernel_rfl) ?_
  refine op_ef (i := 7) HF rfl rfl rfl (ef_lit (n := 3) HS sl22 (parts := #[(0, .tmp 13), (1, .tmp 14), (2, .tmp 15)]) (evs_cons rfl (evs_cons rfl (evs_cons rfl evs_nil))) rfl rfl (s := [(32, _), (32, _), (32, _)]) rfl (by simp)) ?_; clear HF HS ac; rintro _ w ac ⟨g16, rfl, HS⟩ HF
  replace HH := HS.sub (List.Sublist.cons _ (List.Sublist.cons_cons _ (List.Sublist.cons_cons _ (List.Sublist.cons_cons _ (List.Sublist.cons _ List.Sublist.slnil))))) (List.nil_sublist _)
  refine ⟨fun _ => HH, ?_⟩
  refine dx_one (i := 8) (by kernel_rfl) ?_
  have hdis : 0 < [ha, hb, hc].length → ∀ x ∈ aF (some (⟨g16, 0, none⟩ : Addr)), x ∉ ids [⟨g5, sgA (rgS ((0 : Nat) : Int) none ([] : List Hsh).length 0), 101⟩] [⟨33, 32, none, ([] : List Hsh).length, 0, hsc ([] : List Hsh)⟩] := by
    intro _ x hx hh
    have hnd := HS.nd
    simp [ids, aF] at hx hh hnd
    omega
  refine op_call (i := 8) HF rfl Tryd.func17 (by kernel_rfl) (by kernel_rfl) (evs_cons rfl (evs_cons rfl evs_nil)) (append9_any g5 0 [] [ha, hb, hc] none (some ⟨g16, 0, none⟩) 0 3 w ⟨HS.blk _ (List.mem_cons_of_mem _ (List.mem_cons_of_mem _ (List.mem_cons_of_mem _ (List.mem_cons_of_mem _ List.mem_cons_self)))), HS.row _ List.mem_cons_self⟩ (by have := HS.rdL (g := g16) (k := 3) (size := 32) rfl (by decide); simpa [sgL, Value.cells, hsc, hcs, hvA] using this) (by simp) rfl ((HS.sub (L' := [⟨g5, sgA (rgS ((0 : Nat) : Int) none ([] : List Hsh).length 0), 101⟩]) (R' := [⟨33, 32, none, ([] : List Hsh).length, 0, hsc ([] : List Hsh)⟩]) (List.Sublist.cons _ (List.Sublist.cons _ (List.Sublist.cons _ (List.Sublist.cons _ (List.Sublist.refl _))))) (List.Sublist.refl _)).low (by simp) h2) hdis (hT.below HS.kp) (hL.below HS.kp) (Nat.le_trans h2 HS.kp.size)) rfl rfl ?_; clear HF ac
  rintro _ w ⟨rfl, a5, c5, k1⟩
  refine ⟨_, rfl, fun ac HF => ?_⟩
  skip
  replace HS := HS.perm (L' := [_, _, _, _, _]) (List.perm_append_comm (l₁ := [_]) (l₂ := [_, _, _, _]))
  replace HS := St.upd (L1 := [_]) (L := [_, _, _, _]) (R1 := [_]) (R := []) HS k1
  replace HS : St [] w0 [_, _, _, _, ⟨g5, sgA (rgS ((3 : Nat) : Int) a5 (appT 0 [] [ha, hb, hc]).length c5), 101⟩] [⟨33, 32, a5, (appT 0 [] [ha, hb, hc]).length, c5, hsc (appT 0 [] [ha, hb, hc])⟩] w := HS.perm (List.perm_append_comm (l₁ := [_, _, _, _]) (l₂ := [_]))
  replace HH := HS.sub (L' := [⟨g4, sgA [(32, hv hc)], 33⟩, ⟨g3, sgA [(32, hv hb)], 33⟩, ⟨g2, sgA [(32, hv ha)], 33⟩]) (R' := []) (List.Sublist.cons _ (List.Sublist.cons_cons _ (List.Sublist.cons_cons _ (List.Sublist.cons_cons _ (List.nil_sublist _))))) (List.nil_sublist _)
  clear k1
  refine ⟨fun _ => HH, ?_⟩
  refine dx_p (i := 9) HF rfl (by kernel_rfl) (by kernel_rfl) (by kernel_rfl) (by decide) (fun _ _ _ h => h) (fun _ => HH) (yl_eql rfl rfl (decide_eq_true (by exact rfl))) rfl rfl ?_; clear HF ac; intro ac HF
  refine dx_p (i := 10) HF rfl (by kernel_rfl) (by kernel_rfl) (by kernel_rfl) (by decide) (fun _ _ _ h => h) (fun _ => HH) (yl_pick (b := true) rfl rfl) rfl rfl ?_; clear HF ac; intro ac HF
  refine dx_p (i := 11) HF rfl (by kernel_rfl) (by kernel_rfl) (by kernel_rfl) (by decide) (fun _ _ _ h => h) (fun _ => HH) (yl_move rfl) rfl rfl ?_; clear HF ac; intro ac HF
  refine dx_p (i := 12) HF rfl (by kernel_rfl) (by kernel_rfl) (by kernel_rfl) (by decide) (fun _ _ _ h => h) (fun _ => HH) (yl_move rfl) rfl rfl ?_; clear HF ac; intro ac HF
  refine dx_one (i := 13) (by kernel_rfl) ?_
  refine op_call (i := 13) HF rfl Tryd.func20 (by kernel_rfl) (by kernel_rfl) (evs_cons rfl evs_nil) (size9_any g5 _ _ _ _ w (HS.blk _ (List.mem_cons_of_mem _ (List.mem_cons_of_mem _ (List.mem_cons_of_mem _ (List.mem_cons_of_mem _ List.mem_cons_self)))))) rfl rfl ?_; clear HF ac
  rintro _ w ⟨rfl, k1⟩
  refine ⟨_, rfl, fun ac HF => ?_⟩
  replace HH := HH.call k1
  replace HS := HS.call k1
  clear k1
  refine ⟨fun _ => HH, ?_⟩
  refine dx_p (i := 14) HF rfl (by kernel_rfl) (by kernel_rfl) (by kernel_rfl) (by decide) (fun _ _ _ h => h) (fun _ => HH) (yl_eql rfl rfl (decide_eq_true (by exact rfl))) rfl rfl ?_; clear HF ac; intro ac HF
  refine dx_p (i := 15) HF rfl (by kernel_rfl) (by kernel_rfl) (by kernel_rfl) (by decide) (fun _ _ _ h => h) (fun _ => HH) (yl_pick (b := true) rfl rfl) rfl rfl ?_; clear HF ac; intro ac HF
  refine dx_p (i := 16) HF rfl (by kernel_rfl) (by kernel_rfl) (by kernel_rfl) (by decide) (fun _ _ _ h => h) (fun _ => HH) (yl_move rfl) rfl rfl ?_; clear HF ac; intro ac HF
  refine dx_p (i := 17) HF rfl (by kernel_rfl) (by kernel_rfl) (by kernel_rfl) (by decide) (fun _ _ _ h => h) (fun _ => HH) (yl_move rfl) rfl rfl ?_; clear HF ac; intro ac HF
  refine dx_one (i := 18) (by kernel_rfl) ?_
  refine op_call (i := 18) HF rfl Tryd.func22 (by kernel_rfl) (by kernel_rfl) (evs_cons rfl evs_nil) (peaks9_any g5 3 (appT 0 [] [ha, hb, hc]) a5 c5 w ⟨HS.blk _ (List.mem_cons_of_mem _ (List.mem_cons_of_mem _ (List.mem_cons_of_mem _ (List.mem_cons_of_mem _ List.mem_cons_self)))), HS.row _ List.mem_cons_self⟩ (by rw [hpl]; decide)) rfl rfl ?_; clear HF ac
  rintro _ w ⟨a6, c6, rfl, k1⟩
  refine ⟨_, rfl, fun ac HF => ?_⟩
  replace HH := HH.call k1.kp
  replace HS := HS.call k1.kp
  clear k1
  refine ⟨fun _ => HH, ?_⟩
  refine dx_p (i := 19) HF rfl (by kernel_rfl) (by kernel_rfl) (by kernel_rfl) (by decide) (fun _ _ _ h => h) (fun _ => HH) (yl_len_slice Tryd.underlying22 rfl) rfl rfl ?_; clear HF ac; intro ac HF
  refine dx_p (i := 20) HF rfl (by kernel_rfl) (by kernel_rfl) (by kernel_rfl) (by decide) (fun _ _ _ h => h) (fun _ => HH) (yl_eql rfl rfl (decide_eq_true (by exact (by rw [hpl]; rfl)))) rfl rfl ?_; clear HF ac; intro ac HF
  refine dx_p (i := 21) HF rfl (by kernel_rfl) (by kernel_rfl) (by kernel_rfl) (by decide) (fun _ _ _ h => h) (fun _ => HH) (yl_pick (b := true) rfl rfl) rfl rfl ?_; clear HF ac; intro ac HF
  refine dx_p (i := 22) HF rfl (by kernel_rfl) (by kernel_rfl) (by kernel_rfl) (by decide) (fun _ _ _ h => h) (fun _ => HH) (yl_move rfl) rfl rfl ?_; clear HF ac; intro ac HF
  refine dx_p (i := 23) HF rfl (by kernel_rfl) (by kernel_rfl) (by kernel_rfl) (by decide) (fun _ _ _ h => h) (fun _ => HH) (yl_move rfl) rfl rfl ?_; clear HF ac; intro ac HF
  refine dx_k (i := 25) HF rfl (by kernel_rfl) (by kernel_rfl) (by kernel_rfl) (by kernel_rfl) (by kernel_rfl) (fun _ _ _ h => h) HH (ld_ag ag33 rfl rfl) rfl rfl ?_; clear HF ac; intro ac HF
  refine dx_k (i := 26) HF rfl (by kernel_rfl) (by kernel_rfl) (by kernel_rfl) (by kernel_rfl) (by kernel_rfl) (fun _ _ _ h => h) HH (ld_ag ag33 rfl rfl) rfl rfl ?_; clear HF ac; intro ac HF
  refine dx_k (i := 28) HF rfl (by kernel_rfl) (by kernel_rfl) (by kernel_rfl) (by kernel_rfl) (by kernel_rfl) (fun _ _ _ h => h) HH (ld_ag ag33 rfl rfl) rfl rfl ?_; clear HF ac; intro ac HF
  refine dx_one (i := 24) (by kernel_rfl) ?_
  refine op_call (i := 24) HF rfl Tryd.func23 (by kernel_rfl) (by kernel_rfl) (evs_cons rfl evs_nil) (root9_any g5 3 (appT 0 [] [ha, hb, hc]) a5 c5 w ⟨HS.blk _ (List.mem_cons_of_mem _ (List.mem_cons_of_mem _ (List.mem_cons_of_mem _ (List.mem_cons_of_mem _ List.mem_cons_self)))), HS.row _ List.mem_cons_self⟩ (by rw [hpl]; decide +kernel) (by decide) (hL.below HS.kp) (Nat.le_trans h2 HS.kp.size)) rfl rfl ?_; clear HF ac
  rintro _ w ⟨rfl, k1⟩
  refine ⟨_, rfl, fun ac HF => ?_⟩
  replace HH := HH.call k1
  replace HS := HS.call k1
  clear k1
  refine ⟨fun _ => HH, ?_⟩
  refine dx_one (i := 27) (by kernel_rfl) ?_
  refine op_call (i := 27) HF rfl Tryd.func37 (by kernel_rfl) (by kernel_rfl) (evs_cons rfl (evs_cons rfl evs_nil)) (node_any ha hb w (hL.below HS.kp) (Nat.le_trans h2 HS.kp.size)) rfl rfl ?_; clear HF ac
  rintro _ w ⟨rfl, k1⟩
  refine ⟨_, rfl, fun ac HF => ?_⟩
  replace HH := HH.call k1
  replace HS := HS.call k1
  clear k1
  refine ⟨fun _ => HH, ?_⟩
  refine dx_one (i := 29) (by kernel_rfl) ?_
  refine op_call (i := 29) HF rfl Tryd.func37 (by kernel_rfl) (by kernel_rfl) (evs_cons rfl (evs_cons rfl evs_nil)) (node_any (nodeH ha hb) hc w (hL.below HS.kp) (Nat.le_trans h2 HS.kp.size)) rfl rfl ?_; clear HF ac
  rintro _ w ⟨rfl, k1⟩
  refine ⟨_, rfl, fun ac HF => ?_⟩
  replace HH := HH.call k1
  replace HS := HS.call k1
  clear k1
  refine ⟨fun _ => HH, ?_⟩
  refine dx_p (i := 30) HF rfl (by kernel_rfl) (by kernel_rfl) (by kernel_rfl) (by decide) (fun _ _ _ h => h) (fun _ => HH) (Tryd.yl_eqH rfl rfl (decide_eq_true (by exact hroot))) rfl rfl ?_; clear HF ac; intro ac HF
  refine dx_p (i := 31) HF rfl (by kernel_rfl) (by kernel_rfl) (by kernel_rfl) (by decide) (fun _ _ _ h => h) (fun _ => HH) (yl_pick (b := true) rfl rfl) rfl rfl ?_; clear HF ac; intro ac HF
  refine dx_p (i := 32) HF rfl (by kernel_rfl) (by kernel_rfl) (by kernel_rfl) (by decide) (fun _ _ _ h => h) (fun _ => HH) (yl_assign rfl) rfl rfl ?_; clear HF ac; intro ac HF
  refine dx_done (by kernel_rfl) ?_
  clear HH
  refine then_n ?_
  refine wp_ret ?_
  exact rt1 rfl HF HS rfl ⟨rfl, HS.kp⟩

end Go.Proofs.YtalnkhgonfcabaaDoor
