/-
  syngraphlaw09's root: a list put together as the document says. (Printed by sx_root.py.)
-/
import Derived.Test.YtalnkhgonfcabaaDoorSx
import Derived.Test.YtalnkhgonfcabaaDoorRefc
namespace Go.Proofs.YtalnkhgonfcabaaDoor
open Go.RowKit

/-! ### Types -/
namespace Root09
theorem ag33 : AgT Tryd.prog 33 32 := AgT.mk' Tryd.underlying33 rfl (by kernel_rfl)
theorem sc3 : ScT Tryd.prog 3 := ScT.mk' Tryd.underlying3 rfl (by kernel_rfl)
theorem sl22 : SlT Tryd.prog 22 33 Tryd.t33 (hv zeroH) 32 32 := ⟨Tryd.underlying22, by kernel_rfl, by kernel_rfl, rfl, rfl, hvA_size _, by decide⟩
theorem sz3 : (Tryd.prog.info? 3).map (·.size) = some 1 := by kernel_rfl
theorem sz33 : (Tryd.prog.info? 33).map (·.size) = some 32 := by kernel_rfl
theorem ze33 : ZeS Tryd.prog 33 [(32, hv zeroH)] := ⟨hv zeroH, ZeT.mk' (by kernel_rfl), (sgA_h zeroH).symm⟩
end Root09
open Go.Proofs.YtalnkhgonfcabaaDoor.Root09

theorem rops_run09 (l : List Hsh) (hll : l.length ≤ 1000) (hne : l ≠ []) : (rops l.length 0 l.length).foldl (stepH l) (some []) = some [rootH l] := by
  have hl1 : 1 ≤ l.length := List.length_pos_iff.2 hne
  have hrun := run_rops l l.length 0 l.length [] (Nat.le_refl _) hl1 (by omega) (by omega)
  rw [List.drop_zero, List.take_length, List.nil_append] at hrun
  exact hrun
theorem stepH_pos09 {l s s' : List Hsh} {j : Nat} (h : stepH l (some s) (j : Int) = some s') : ∃ x, l[j]? = some x ∧ s' = s ++ [x] := by
  rw [stepH, Option.bind_some, if_pos (by omega)] at h
  obtain ⟨x, hx, rfl⟩ := Option.map_eq_some_iff.1 h
  exact ⟨x, by simpa using hx, rfl⟩
theorem stepH_neg09 {l s s' : List Hsh} {op : Int} (ho : ¬ op ≥ 0) (h : stepH l (some s) op = some s') : 2 ≤ s.length ∧ ∃ x y, s[s.length - 2]? = some x ∧ s[s.length - 1]? = some y ∧ s' = s.take (s.length - 2) ++ [nodeH x y] := by
  rw [stepH, Option.bind_some, if_neg (by omega)] at h
  by_cases h2 : 2 ≤ s.length
  · rw [if_pos h2] at h
    have e1 : s[s.length - 2]? = some (s.getD (s.length - 2) zeroH) := by rw [List.getD_eq_getElem?_getD, List.getElem?_eq_getElem (by omega)]; rfl
    have e2 : s[s.length - 1]? = some (s.getD (s.length - 1) zeroH) := by rw [List.getD_eq_getElem?_getD, List.getElem?_eq_getElem (by omega)]; rfl
    exact ⟨h2, _, _, e1, e2, (Option.some.inj h).symm⟩
  · rw [if_neg h2] at h; cases h

set_option maxRecDepth 100000 in
theorem root09_any (l : List Hsh) (a : Option Addr) (c : Nat) (w0 : World) (hr : Rd w0 a l.length c 32 (hsc l)) (hll : l.length ≤ 1000) (hL : Laid w0) (h2 : 4 ≤ w0.heap.size) :
    Calls Tryd.prog 19 #[.slice a l.length c] w0 fun e w' => e = .returned (hv (rootH l)) ∧ Kp [] w0 w' := by
  refine calls_st (F := []) (args := [.slice a l.length c]) Tryd.func19 rfl (n := 53) rfl rfl ?_
  intro ac w HF HS
  refine wp_seq ?_
  refine wp_region_lit ?_
  refine sx_ef HF (ef_alloc HS ze33) rfl rfl ?_; clear HF HS ac; rintro _ w ac ⟨g2, rfl, HS⟩ HF
  refine wpList_nil ?_
  refine then_n ?_
  refine wp_seq ?_
  refine wp_seq ?_
  refine wp_region_lit ?_
  refine sx_y HF HS (yl_move rfl) rfl rfl ?_; clear HF ac; intro ac HF
  refine sx_y HF HS (yl_len_slice Tryd.underlying22 rfl) rfl rfl ?_; clear HF ac; intro ac HF
  refine sx_dec HF HS (yl_eql rfl rfl rfl) rfl rfl ?_ ?_ <;> clear HF ac <;> intro h1x2 ac HF
  · obtain rfl : l = [] := List.eq_nil_of_length_eq_zero (by omega)
    refine wpList_nil ?_
    refine then_n ?_
    refine cx_true HF rfl ?_
    refine wp_seq ?_
    refine wp_region_lit ?_
    refine sx_call HF Tryd.func69 (by kernel_rfl) (by kernel_rfl) (evs_cons rfl evs_nil) (sum_any none 0 [] w (nil_rd w 1) (hL.below HS.kp) (Nat.le_trans h2 HS.kp.size)) rfl rfl ?_; clear HF ac
    rintro _ w ⟨rfl, k1⟩
    refine ⟨_, rfl, fun ac HF => ?_⟩
    replace HS := HS.call k1
    clear k1
    refine sx_ef0 HF (ef_store HS sz33 rfl rfl rfl) rfl ?_; clear HS; rintro _ w HS
    refine wpList_nil ?_
    refine then_n ?_
    refine wp_ret ?_
    refine then_r ?_
    exact rt1 rfl HF HS ⟨⟨_, rfl⟩, ld_ag ag33 rfl rfl⟩ ⟨rfl, HS.kp⟩
  · have hne : l ≠ [] := by rintro rfl; exact h1x2 rfl
    have hl1 : 1 ≤ l.length := List.length_pos_iff.2 hne
    have hrun := rops_run09 l hll hne
    have hlen := rops_length l.length 0 l.length (Nat.le_refl _) hl1 (by omega)
    have hcall := fun w => refRoot_all l.length 0 l.length w (Nat.le_refl _) hl1 (by omega)
    simp only [Nat.zero_add] at hcall
    generalize rops l.length 0 l.length = ops at *
    refine wpList_nil ?_
    refine then_n ?_
    refine cx_false HF rfl ?_
    refine wp_skip ?_
    refine then_n ?_
    refine wp_seq ?_
    refine wp_region_lit ?_
    refine sx_y HF HS (yl_assign rfl) rfl rfl ?_; clear HF ac; intro ac HF
    replace HS := HS.nilRow 33 32
    refine wpList_nil ?_
    refine then_n ?_
    refine wp_seq ?_
    refine wp_seq ?_
    refine wp_region_lit ?_
    refine sx_y HF HS (yl_move rfl) rfl rfl ?_; clear HF ac; intro ac HF
    refine sx_y HF HS (yl_len_slice Tryd.underlying22 rfl) rfl rfl ?_; clear HF ac; intro ac HF
    refine sx_call HF Tryd.func70 (by kernel_rfl) (by kernel_rfl) (evs_cons rfl (evs_cons rfl evs_nil)) (hcall w) rfl rfl ?_; clear HF ac
    rintro _ w ⟨_, rfl, a13, c13, rfl, o7, f7, k7⟩
    refine ⟨_, rfl, fun ac HF => ?_⟩
    replace HS := HS.addRow k7 o7 f7
    clear o7 f7 k7
    refine sx_y HF HS (yl_len_slice Tryd.underlying23 rfl) rfl rfl ?_; clear HF ac; intro ac HF
    refine sx_y HF HS (yl_move rfl) rfl rfl ?_; clear HF ac; intro ac HF
    refine wpList_nil ?_
    refine then_n ?_
    refine wp_block ?_
    replace HF := HF.sub (m' := [(0, _), (2, _), (13, _), (14, _), (15, _), (3, _)]) (by repeat (first | exact ag_nil | refine ag_cons rfl ?_))
    refine cx_loop (m := [(0, _), (2, _), (13, _), (14, _)]) (HF.sub (by repeat (first | exact ag_nil | refine ag_cons rfl ?_))) (fun m d ac w => ∃ (k : Nat) (s : List Hsh) (a3 : Option Addr) (c3 : Nat), k ≤ ops.length ∧ (ops.take k).foldl (stepH l) (some []) = some s ∧ s.length ≤ k ∧ d = ops.length - k ∧ Fr ([(15, .int .i64 (k : Int)), (3, .slice a3 s.length c3)] ++ m) 53 ac ∧ St [] w0 [⟨g2, sgA [(32, hv zeroH)], 33⟩] [⟨3, 1, a13, ops.length, c13, ivs ops⟩, ⟨33, 32, a3, s.length, c3, hsc s⟩] w) ?_ ?_
    · exact ⟨_, 0, [], none, 0, Nat.zero_le _, rfl, Nat.le_refl _, rfl, HF.sub (by repeat (first | exact ag_nil | refine ag_cons rfl ?_)), HS⟩
    · clear HF HS ac w
      rintro d ac w ⟨k, s, a3, c3, hk, hs, hsk, rfl, HF, HS⟩
      refine wp_seq ?_
      refine wp_region_lit ?_
      refine sx_dec HF HS (yl_lss rfl rfl rfl) rfl rfl ?_ ?_ <;> clear HF ac <;> intro h5x0 ac HF
      · obtain ⟨op, hop⟩ : ∃ op, ops[k]? = some op := ⟨_, List.getElem?_eq_getElem (by omega)⟩
        have hbv : (ivs ops)[k]? = some (.int .i64 op) := by rw [ivs, List.getElem?_map, hop]; rfl
        obtain ⟨s0, s2, hs0, hst, hs2⟩ := run_at l ops _ hrun k (by omega)
        obtain rfl : s0 = s := Option.some.inj (hs0.symm.trans hs)
        rw [(List.getElem?_eq_some_iff.1 hop).2] at hst
        refine wpList_nil ?_
        refine then_n ?_
        refine wp_seq ?_
        refine cx_true HF rfl ?_
        refine wp_skip ?_
        refine then_n ?_
        refine wp_seq ?_
        refine wp_block ?_
        refine wp_seq ?_
        refine wp_region_lit ?_
        refine sx_y HF HS (ix_sl Tryd.underlying23 sz3 rfl rfl (by omega) HS.row0.nil0) rfl rfl ?_; clear HF ac; intro ac HF
        refine sx_y HF HS (ld_elC sc3 rfl hbv (fun w h => h.row0)) rfl rfl ?_; clear HF ac; intro ac HF
        refine sx_y HF HS (yl_assign rfl) rfl rfl ?_; clear HF ac; intro ac HF
        refine wpList_nil ?_
        refine then_n ?_
        refine wp_seq ?_
        refine wp_seq ?_
        refine wp_region_lit ?_
        refine sx_y HF HS (yl_move rfl) rfl rfl ?_; clear HF ac; intro ac HF
        refine sx_dec HF HS (yl_geq rfl rfl rfl) rfl rfl ?_ ?_ <;> clear HF ac <;> intro h7x1 ac HF
        · obtain ⟨j, rfl⟩ : ∃ j : Nat, op = j := ⟨op.toNat, by omega⟩
          obtain ⟨x, hx, rfl⟩ := stepH_pos09 hst
          have hj := (List.getElem?_eq_some_iff.1 hx).1
          refine wpList_nil ?_
          refine then_n ?_
          refine cx_true HF rfl ?_
          refine wp_seq ?_
          refine wp_region_lit ?_
          refine sx_y HF HS (yl_move rfl) rfl rfl ?_; clear HF ac; intro ac HF
          refine sx_y HF HS (yl_move rfl) rfl rfl ?_; clear HF ac; intro ac HF
          refine sx_y HF HS (yl_move rfl) rfl rfl ?_; clear HF ac; intro ac HF
          refine sx_y HF HS (ix_sl Tryd.underlying22 sz33 rfl rfl (by omega) hr.nil0) rfl rfl ?_; clear HF ac; intro ac HF
          refine sx_y HF HS (ld_elH ag33 rfl hx (fun w h => hr.below h.kp)) rfl rfl ?_; clear HF ac; intro ac HF
          refine sx_ef HF (ef_lit (n := 1) HS sl22 (parts := #[(0, .tmp 25)]) (evs_cons rfl evs_nil) rfl rfl (s := [(32, _)]) rfl (by simp)) rfl rfl ?_; clear HF HS ac; rintro _ w ac ⟨g26, rfl, HS⟩ HF
          refine sx_ef HF (ef_append1 (n' := (s0 ++ [x]).length) (ys := hsc (s0 ++ [x])) HS sl22 rfl rfl rfl (by simp) (by simp; omega) (hsc_app1 _ _)) rfl rfl ?_; clear HF HS ac; rintro _ w ac ⟨a27, c27, rfl, HS⟩ HF
          refine sx_y HF HS (yl_assign rfl) rfl rfl ?_; clear HF ac; intro ac HF
          refine wpList_nil ?_
          refine then_n ?_
          refine wp_exit ?_
          refine then_x ?_
          refine blk_hit ?_
          refine then_n ?_
          refine wp_region_lit ?_
          refine sx_y HF HS (yl_add64 (r := ((k + 1 : Nat) : Int)) rfl rfl (by omega) (by omega)) rfl rfl ?_; clear HF ac; intro ac HF
          refine sx_y HF HS (yl_move rfl) rfl rfl ?_; clear HF ac; intro ac HF
          refine wpList_nil ?_
          refine then_n ?_
          refine ⟨_, ?_, k + 1, _, _, _, by omega, hs2, ?_, rfl, HF.sub (by repeat (first | exact ag_nil | refine ag_cons rfl ?_)), HS.sub (List.Sublist.cons _ (List.Sublist.refl _)) (List.Sublist.refl _)⟩
          · omega
          · simp; omega
        · obtain ⟨hs3, x, y, hx, hy, rfl⟩ := stepH_neg09 h7x1 hst
          refine wpList_nil ?_
          refine then_n ?_
          refine cx_false HF rfl ?_
          refine wp_skip ?_
          refine then_n ?_
          refine wp_seq ?_
          refine wp_region_lit ?_
          refine sx_y HF HS (yl_move rfl) rfl rfl ?_; clear HF ac; intro ac HF
          refine sx_y HF HS (yl_len_slice Tryd.underlying22 rfl) rfl rfl ?_; clear HF ac; intro ac HF
          refine sx_y HF HS (yl_sub64 (r := ((s0.length - 2 : Nat) : Int)) rfl rfl (by omega) (by omega)) rfl rfl ?_; clear HF ac; intro ac HF
          refine sx_y HF HS (yl_assign rfl) rfl rfl ?_; clear HF ac; intro ac HF
          refine wpList_nil ?_
          refine then_n ?_
          refine wp_seq ?_
          refine wp_seq ?_
          refine wp_region_lit ?_
          refine sx_y HF HS (yl_move rfl) rfl rfl ?_; clear HF ac; intro ac HF
          refine sx_y HF HS (yl_lss rfl rfl (decide_eq_false (by omega))) rfl rfl ?_; clear HF ac; intro ac HF
          refine wpList_nil ?_
          refine then_n ?_
          refine cx_false HF rfl ?_
          refine wp_skip ?_
          refine then_n ?_
          refine dx_region 12 (by kernel_rfl) HS.drew (fun _ h => h) ?_; clear HS; intro w HS
          have HH := HS
          refine dx_p (i := 0) HF rfl (by kernel_rfl) (by kernel_rfl) (by kernel_rfl) (by decide) (fun _ _ _ h => h) (fun _ => HH) (yl_move rfl) rfl rfl ?_; clear HF ac; intro ac HF
          refine dx_p (i := 1) HF rfl (by kernel_rfl) (by kernel_rfl) (by kernel_rfl) (by decide) (fun _ _ _ h => h) (fun _ => HH) (yl_move rfl) rfl rfl ?_; clear HF ac; intro ac HF
          have hlm := HS.row1.lim
          refine dx_p (i := 2) HF rfl (by kernel_rfl) (by kernel_rfl) (by kernel_rfl) (by decide) (fun _ _ _ h => h) (fun _ => HH) (sl_hi (r := (s0.take (s0.length - 2)).length) Tryd.underlying22 sz33 rfl rfl (by omega) (by simp)) rfl rfl ?_; clear HF ac; intro ac HF
          refine dx_p (i := 3) HF rfl (by kernel_rfl) (by kernel_rfl) (by kernel_rfl) (by decide) (fun _ _ _ h => h) (fun _ => HH) (yl_move rfl) rfl rfl ?_; clear HF ac; intro ac HF
          refine dx_p (i := 4) HF rfl (by kernel_rfl) (by kernel_rfl) (by kernel_rfl) (by decide) (fun _ _ _ h => h) (fun _ => HH) (yl_move rfl) rfl rfl ?_; clear HF ac; intro ac HF
          refine dx_p (i := 5) HF rfl (by kernel_rfl) (by kernel_rfl) (by kernel_rfl) (by decide) (fun _ _ _ h => h) (fun _ => HH) (ix_sl Tryd.underlying22 sz33 rfl rfl (by omega) HS.row1.nil0) rfl rfl ?_; clear HF ac; intro ac HF
          refine dx_k (i := 6) HF rfl (by kernel_rfl) (by kernel_rfl) (by kernel_rfl) (by kernel_rfl) (by kernel_rfl) (fun _ _ _ h => h) HH (ld_elH ag33 rfl hx (fun w h => h.row1)) rfl rfl ?_; clear HF ac; intro ac HF
          refine dx_p (i := 7) HF rfl (by kernel_rfl) (by kernel_rfl) (by kernel_rfl) (by decide) (fun _ _ _ h => h) (fun _ => HH) (yl_move rfl) rfl rfl ?_; clear HF ac; intro ac HF
          refine dx_p (i := 8) HF rfl (by kernel_rfl) (by kernel_rfl) (by kernel_rfl) (by decide) (fun _ _ _ h => h) (fun _ => HH) (yl_move rfl) rfl rfl ?_; clear HF ac; intro ac HF
          refine dx_p (i := 9) HF rfl (by kernel_rfl) (by kernel_rfl) (by kernel_rfl) (by decide) (fun _ _ _ h => h) (fun _ => HH) (yl_add64 (r := ((s0.length - 1 : Nat) : Int)) rfl rfl (by omega) (by omega)) rfl rfl ?_; clear HF ac; intro ac HF
          refine dx_p (i := 10) HF rfl (by kernel_rfl) (by kernel_rfl) (by kernel_rfl) (by decide) (fun _ _ _ h => h) (fun _ => HH) (ix_sl Tryd.underlying22 sz33 rfl rfl (by omega) HS.row1.nil0) rfl rfl ?_; clear HF ac; intro ac HF
          refine dx_k (i := 11) HF rfl (by kernel_rfl) (by kernel_rfl) (by kernel_rfl) (by kernel_rfl) (by kernel_rfl) (fun _ _ _ h => h) HH (ld_elH ag33 rfl hy (fun w h => h.row1)) rfl rfl ?_; clear HF ac; intro ac HF
          refine dx_one (i := 12) (by kernel_rfl) ?_
          refine op_call (i := 12) HF rfl Tryd.func37 (by kernel_rfl) (by kernel_rfl) (evs_cons rfl (evs_cons rfl evs_nil)) (node_any x y w (hL.below HS.kp) (Nat.le_trans h2 HS.kp.size)) rfl rfl ?_; clear HF ac
          rintro _ w ⟨rfl, k1⟩
          refine ⟨_, rfl, fun ac HF => ?_⟩
          replace HS := HS.call k1
          clear k1
          refine ⟨fun h => absurd h (by decide), ?_⟩
          refine dx_one (i := 13) (by kernel_rfl) ?_
          refine op_ef (i := 13) HF rfl rfl rfl (ef_lit (n := 1) HS sl22 (parts := #[(0, .tmp 46)]) (evs_cons rfl evs_nil) rfl rfl (s := [(32, _)]) rfl (by simp)) ?_; clear HF HS ac; rintro _ w ac ⟨g47, rfl, HS⟩ HF
          refine ⟨fun h => absurd h (by decide), ?_⟩
          refine dx_one (i := 14) (by kernel_rfl) ?_
          replace HS := HS.cutH (e := 33) (a := a3) (c := c3) (s := s0) (m := s0.length - 2) (by omega)
          refine op_ef (i := 14) HF rfl rfl rfl (ef_append1 (n' := ((s0.take (s0.length - 2)) ++ [(nodeH x y)]).length) (ys := hsc ((s0.take (s0.length - 2)) ++ [(nodeH x y)])) HS sl22 rfl rfl rfl (by simp) (by simp; omega) (hsc_app1 _ _)) ?_; clear HF HS ac; rintro _ w ac ⟨a48, c48, rfl, HS⟩ HF
          refine ⟨fun h => absurd h (by decide), ?_⟩
          refine dx_p (i := 15) HF rfl (by kernel_rfl) (by kernel_rfl) (by kernel_rfl) (by decide) (fun _ _ _ h => h) (fun h => absurd h (by decide)) (yl_assign rfl) rfl rfl ?_; clear HF ac; intro ac HF
          refine dx_done (by kernel_rfl) ?_
          clear HH
          refine blk_n ?_
          refine then_n ?_
          refine wp_region_lit ?_
          refine sx_y HF HS (yl_add64 (r := ((k + 1 : Nat) : Int)) rfl rfl (by omega) (by omega)) rfl rfl ?_; clear HF ac; intro ac HF
          refine sx_y HF HS (yl_move rfl) rfl rfl ?_; clear HF ac; intro ac HF
          refine wpList_nil ?_
          refine then_n ?_
          refine ⟨_, ?_, k + 1, _, _, _, by omega, hs2, ?_, rfl, HF.sub (by repeat (first | exact ag_nil | refine ag_cons rfl ?_)), HS.sub (List.Sublist.cons _ (List.Sublist.refl _)) (List.Sublist.refl _)⟩
          · omega
          · simp; omega
      · obtain rfl : k = ops.length := by omega
        rw [List.take_length, hrun] at hs
        obtain rfl := Option.some.inj hs
        have hone : [rootH l].length = 1 := rfl
        refine wpList_nil ?_
        refine then_n ?_
        refine wp_seq ?_
        refine cx_false HF rfl ?_
        refine wp_exit ?_
        refine then_x ?_
        refine then_x ?_
        refine blk_hit ?_
        refine then_n ?_
        refine wp_seq ?_
        refine wp_region_lit ?_
        refine sx_y HF HS (yl_move rfl) rfl rfl ?_; clear HF ac; intro ac HF
        refine sx_y HF HS (ix_sl (k := 0) Tryd.underlying22 sz33 rfl rfl (by omega) HS.row1.nil0) rfl rfl ?_; clear HF ac; intro ac HF
        refine sx_y HF HS (ld_elH ag33 rfl (h := rootH l) rfl (fun w h => h.row1)) rfl rfl ?_; clear HF ac; intro ac HF
        refine sx_ef0 HF (ef_store HS sz33 rfl rfl rfl) rfl ?_; clear HS; rintro _ w HS
        refine wpList_nil ?_
        refine then_n ?_
        refine wp_ret ?_
        exact rt1 rfl HF HS ⟨⟨_, rfl⟩, ld_ag ag33 rfl rfl⟩ ⟨rfl, HS.kp⟩

end Go.Proofs.YtalnkhgonfcabaaDoor
