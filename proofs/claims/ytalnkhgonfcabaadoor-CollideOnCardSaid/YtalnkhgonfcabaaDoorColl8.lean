/-
  collide.inner, second, begun: the two roots of a proof, from its top. (Printed by sx_coll8.py.)
-/
import Derived.Test.YtalnkhgonfcabaaDoorColl7
import Derived.Test.YtalnkhgonfcabaaDoorTop
namespace Go.Proofs.YtalnkhgonfcabaaDoor
open Go.RowKit

/-! ### Types -/
namespace Coll8
theorem ag33 : AgT Tryd.prog 33 32 := AgT.mk' Tryd.underlying33 rfl (by kernel_rfl)
theorem sz33 : (Tryd.prog.info? 33).map (·.size) = some 32 := by kernel_rfl
theorem ze33 : ZeS Tryd.prog 33 [(32, hv zeroH)] := ⟨hv zeroH, ZeT.mk' (by kernel_rfl), (sgA_h zeroH).symm⟩
theorem zt33 : ZeT Tryd.prog 33 (hv zeroH) := ZeT.mk' (by kernel_rfl)
end Coll8
open Go.Proofs.YtalnkhgonfcabaaDoor.Coll8

set_option maxRecDepth 100000 in
theorem inner_own (m n : Nat) (old : Hsh) (ps : List Hsh) (a : Option Addr) (c : Nat) (w0 : World) (_hr : Rd w0 a ps.length c 32 (hsc ps)) (hmn : m = n) (_hL : Laid w0) (_h2 : 4 ≤ w0.heap.size) :
    Calls Tryd.prog 150 #[.int .i64 (m : Int), .int .i64 (n : Int), hv old, .bool true, .slice a ps.length c] w0 fun e w' => e = .returned (.tuple #[hv old, hv old]) ∧ Kp [] w0 w' := by
  refine calls_st (F := []) (args := [.int .i64 (m : Int), .int .i64 (n : Int), hv old, .bool true, .slice a ps.length c]) Tryd.func150 rfl (n := 82) rfl rfl ?_
  intro ac w HF HS
  refine wp_seq ?_
  refine wp_region_lit ?_
  refine sx_ef HF (ef_box (n := 32) HS rfl) rfl rfl ?_; clear HF HS ac; rintro _ w ac ⟨g7, rfl, HS⟩ HF
  refine sx_ef HF (ef_alloc HS ze33) rfl rfl ?_; clear HF HS ac; rintro _ w ac ⟨g10, rfl, HS⟩ HF
  refine sx_ef HF (ef_alloc HS ze33) rfl rfl ?_; clear HF HS ac; rintro _ w ac ⟨g11, rfl, HS⟩ HF
  refine wpList_nil ?_
  refine then_n ?_
  refine wp_seq ?_
  refine wp_seq ?_
  refine wp_region_lit ?_
  refine sx_y HF HS (yl_move rfl) rfl rfl ?_; clear HF ac; intro ac HF
  refine sx_y HF HS (yl_move rfl) rfl rfl ?_; clear HF ac; intro ac HF
  refine sx_y HF HS (yl_eql rfl rfl (decide_eq_true (by exact (by omega)))) rfl rfl ?_; clear HF ac; intro ac HF
  refine wpList_nil ?_
  refine then_n ?_
  refine cx_true HF rfl ?_
  refine wp_seq ?_
  refine wp_seq ?_
  refine wp_region_lit ?_
  refine sx_y HF HS (yl_move rfl) rfl rfl ?_; clear HF ac; intro ac HF
  refine wpList_nil ?_
  refine then_n ?_
  refine cx_true HF rfl ?_
  refine wp_seq ?_
  refine dx_region 3 (by kernel_rfl) HS.drew (fun _ h => h.sub (List.Sublist.cons _ (List.Sublist.cons _ (List.Sublist.cons_cons _ List.Sublist.slnil))) (List.Sublist.refl _)) ?_; clear HS; intro w HS
  have HH := HS.sub (List.Sublist.cons _ (List.Sublist.cons _ (List.Sublist.cons_cons _ List.Sublist.slnil))) (List.Sublist.refl _)
  refine dx_k (i := 0) HF rfl (by kernel_rfl) (by kernel_rfl) (by kernel_rfl) (by kernel_rfl) (by kernel_rfl) (fun _ _ _ h => h) HH (ld_ag ag33 rfl rfl) rfl rfl ?_; clear HF ac; intro ac HF
  refine dx_k (i := 1) HF rfl (by kernel_rfl) (by kernel_rfl) (by kernel_rfl) (by kernel_rfl) (by kernel_rfl) (fun _ _ _ h => h) HH (ld_ag ag33 rfl rfl) rfl rfl ?_; clear HF ac; intro ac HF
  refine dx_one (i := 2) (by kernel_rfl) ?_
  refine op_ef0 (i := 2) HF rfl rfl (ef_store HS sz33 rfl rfl rfl) ?_; clear HS; rintro _ w HS
  replace HH := HS.sub (List.Sublist.cons _ (List.Sublist.cons _ (List.Sublist.cons_cons _ List.Sublist.slnil))) (List.Sublist.refl _)
  refine ⟨fun _ => HH, ?_⟩
  refine dx_one (i := 3) (by kernel_rfl) ?_
  refine op_ef0 (i := 3) HF rfl rfl (ef_store HS sz33 rfl rfl rfl) ?_; clear HS; rintro _ w HS
  refine ⟨fun h => absurd h (by decide), ?_⟩
  refine dx_done (by kernel_rfl) ?_
  clear HH
  refine then_n ?_
  refine wp_ret ?_
  refine then_r ?_
  refine then_r ?_
  exact rt2 rfl HF HS ⟨⟨_, rfl⟩, ld_ag ag33 rfl rfl⟩ ⟨⟨_, rfl⟩, ld_ag ag33 rfl rfl⟩ ⟨rfl, HS.kp⟩

set_option maxRecDepth 100000 in
theorem inner_one (m n : Nat) (old : Hsh) (ps : List Hsh) (a : Option Addr) (c : Nat) (w0 : World) (hr : Rd w0 a ps.length c 32 (hsc ps)) (hmn : m = n) (q : Hsh) (hq : ps = [q]) (_hL : Laid w0) (_h2 : 4 ≤ w0.heap.size) :
    Calls Tryd.prog 150 #[.int .i64 (m : Int), .int .i64 (n : Int), hv old, .bool false, .slice a ps.length c] w0 fun e w' => e = .returned (.tuple #[hv q, hv q]) ∧ Kp [] w0 w' := by
  have hone : ps.length = 1 := by rw [hq]; rfl
  have h0 : ps[0]? = some q := by rw [hq]; rfl
  refine calls_st (F := []) (args := [.int .i64 (m : Int), .int .i64 (n : Int), hv old, .bool false, .slice a ps.length c]) Tryd.func150 rfl (n := 82) rfl rfl ?_
  intro ac w HF HS
  refine wp_seq ?_
  refine wp_region_lit ?_
  refine sx_ef HF (ef_box (n := 32) HS rfl) rfl rfl ?_; clear HF HS ac; rintro _ w ac ⟨g7, rfl, HS⟩ HF
  refine sx_ef HF (ef_alloc HS ze33) rfl rfl ?_; clear HF HS ac; rintro _ w ac ⟨g10, rfl, HS⟩ HF
  refine sx_ef HF (ef_alloc HS ze33) rfl rfl ?_; clear HF HS ac; rintro _ w ac ⟨g11, rfl, HS⟩ HF
  refine wpList_nil ?_
  refine then_n ?_
  refine wp_seq ?_
  refine wp_seq ?_
  refine wp_region_lit ?_
  refine sx_y HF HS (yl_move rfl) rfl rfl ?_; clear HF ac; intro ac HF
  refine sx_y HF HS (yl_move rfl) rfl rfl ?_; clear HF ac; intro ac HF
  refine sx_y HF HS (yl_eql rfl rfl (decide_eq_true (by exact (by omega)))) rfl rfl ?_; clear HF ac; intro ac HF
  refine wpList_nil ?_
  refine then_n ?_
  refine cx_true HF rfl ?_
  refine wp_seq ?_
  refine wp_seq ?_
  refine wp_region_lit ?_
  refine sx_y HF HS (yl_move rfl) rfl rfl ?_; clear HF ac; intro ac HF
  refine wpList_nil ?_
  refine then_n ?_
  refine cx_false HF rfl ?_
  refine wp_skip ?_
  refine then_n ?_
  refine wp_seq ?_
  refine dx_region 7 (by kernel_rfl) HS.drew (fun _ h => h.sub (List.Sublist.cons _ (List.Sublist.cons _ (List.Sublist.cons_cons _ List.Sublist.slnil))) (List.Sublist.refl _)) ?_; clear HS; intro w HS
  have HH := HS.sub (List.Sublist.cons _ (List.Sublist.cons _ (List.Sublist.cons_cons _ List.Sublist.slnil))) (List.Sublist.refl _)
  refine dx_p (i := 0) HF rfl (by kernel_rfl) (by kernel_rfl) (by kernel_rfl) (by decide) (fun _ _ _ h => h) (fun _ => HH) (yl_move rfl) rfl rfl ?_; clear HF ac; intro ac HF
  refine dx_p (i := 1) HF rfl (by kernel_rfl) (by kernel_rfl) (by kernel_rfl) (by decide) (fun _ _ _ h => h) (fun _ => HH) (ix_sl (k := 0) Tryd.underlying22 sz33 rfl rfl (by omega) hr.nil0) rfl rfl ?_; clear HF ac; intro ac HF
  refine dx_k (i := 2) HF rfl (by kernel_rfl) (by kernel_rfl) (by kernel_rfl) (by kernel_rfl) (by kernel_rfl) (fun _ _ _ h => h) HH (ld_elH ag33 rfl h0 (fun w h => hr.below h.kp)) rfl rfl ?_; clear HF ac; intro ac HF
  refine dx_p (i := 3) HF rfl (by kernel_rfl) (by kernel_rfl) (by kernel_rfl) (by decide) (fun _ _ _ h => h) (fun _ => HH) (yl_move rfl) rfl rfl ?_; clear HF ac; intro ac HF
  refine dx_p (i := 4) HF rfl (by kernel_rfl) (by kernel_rfl) (by kernel_rfl) (by decide) (fun _ _ _ h => h) (fun _ => HH) (ix_sl (k := 0) Tryd.underlying22 sz33 rfl rfl (by omega) hr.nil0) rfl rfl ?_; clear HF ac; intro ac HF
  refine dx_k (i := 5) HF rfl (by kernel_rfl) (by kernel_rfl) (by kernel_rfl) (by kernel_rfl) (by kernel_rfl) (fun _ _ _ h => h) HH (ld_elH ag33 rfl h0 (fun w h => hr.below h.kp)) rfl rfl ?_; clear HF ac; intro ac HF
  refine dx_one (i := 6) (by kernel_rfl) ?_
  refine op_ef0 (i := 6) HF rfl rfl (ef_store HS sz33 rfl rfl rfl) ?_; clear HS; rintro _ w HS
  replace HH := HS.sub (List.Sublist.cons _ (List.Sublist.cons _ (List.Sublist.cons_cons _ List.Sublist.slnil))) (List.Sublist.refl _)
  refine ⟨fun _ => HH, ?_⟩
  refine dx_one (i := 7) (by kernel_rfl) ?_
  refine op_ef0 (i := 7) HF rfl rfl (ef_store HS sz33 rfl rfl rfl) ?_; clear HS; rintro _ w HS
  refine ⟨fun h => absurd h (by decide), ?_⟩
  refine dx_done (by kernel_rfl) ?_
  clear HH
  refine then_n ?_
  refine wp_ret ?_
  refine then_r ?_
  exact rt2 rfl HF HS ⟨⟨_, rfl⟩, ld_ag ag33 rfl rfl⟩ ⟨⟨_, rfl⟩, ld_ag ag33 rfl rfl⟩ ⟨rfl, HS.kp⟩

set_option maxRecDepth 100000 in
theorem inner_left (m n : Nat) (old : Hsh) (ps : List Hsh) (a : Option Addr) (c : Nat) (w0 : World) (hr : Rd w0 a ps.length c 32 (hsc ps)) (own : Bool) (h1 : 1 ≤ m) (hmn : m < n) (hb : n ≤ 1152921504606846976) (q : List Hsh) (s : Hsh) (hq : ps = q ++ [s]) (x : Hsh × Hsh) (hk : m ≤ sp n) (IH : ∀ w, Kp [] w0 w → Calls Tryd.prog 150 #[.int .i64 ((m : Nat) : Int), .int .i64 ((sp n : Nat) : Int), hv old, .bool own, .slice a q.length c] w fun e w' => e = .returned (.tuple #[hv x.1, hv x.2]) ∧ Kp [] w w') (hL : Laid w0) (h2 : 4 ≤ w0.heap.size) :
    Calls Tryd.prog 150 #[.int .i64 (m : Int), .int .i64 (n : Int), hv old, .bool own, .slice a ps.length c] w0 fun e w' => e = .returned (.tuple #[hv x.1, hv (nodeH x.2 s)]) ∧ Kp [] w0 w' := by
  obtain ⟨_, _, hs1, hs2, hs3⟩ := sp_spec n (by omega) (by omega)
  have hql : ps.length = q.length + 1 := by rw [hq]; simp
  have hqs : ps[q.length]? = some s := by rw [hq]; simp
  have hlmb := hr.lim
  refine calls_st (F := []) (args := [.int .i64 (m : Int), .int .i64 (n : Int), hv old, .bool own, .slice a ps.length c]) Tryd.func150 rfl (n := 82) rfl rfl ?_
  intro ac w HF HS
  refine wp_seq ?_
  refine wp_region_lit ?_
  refine sx_ef HF (ef_box (n := 32) HS rfl) rfl rfl ?_; clear HF HS ac; rintro _ w ac ⟨g7, rfl, HS⟩ HF
  refine sx_ef HF (ef_alloc HS ze33) rfl rfl ?_; clear HF HS ac; rintro _ w ac ⟨g10, rfl, HS⟩ HF
  refine sx_ef HF (ef_alloc HS ze33) rfl rfl ?_; clear HF HS ac; rintro _ w ac ⟨g11, rfl, HS⟩ HF
  refine wpList_nil ?_
  refine then_n ?_
  refine wp_seq ?_
  refine wp_seq ?_
  refine wp_region_lit ?_
  refine sx_y HF HS (yl_move rfl) rfl rfl ?_; clear HF ac; intro ac HF
  refine sx_y HF HS (yl_move rfl) rfl rfl ?_; clear HF ac; intro ac HF
  refine sx_y HF HS (yl_eql rfl rfl (decide_eq_false (by omega))) rfl rfl ?_; clear HF ac; intro ac HF
  refine wpList_nil ?_
  refine then_n ?_
  refine cx_false HF rfl ?_
  refine wp_skip ?_
  refine then_n ?_
  refine wp_seq ?_
  refine wp_region_lit ?_
  refine sx_y HF HS (yl_move rfl) rfl rfl ?_; clear HF ac; intro ac HF
  refine sx_call HF Tryd.func101 (by kernel_rfl) (by kernel_rfl) (evs_cons rfl evs_nil) (split_any n w (by omega) (by omega)) rfl rfl ?_; clear HF ac
  rintro _ w ⟨rfl, rfl⟩
  refine ⟨_, rfl, fun ac HF => ?_⟩
  refine sx_y HF HS (yl_move rfl) rfl rfl ?_; clear HF ac; intro ac HF
  refine sx_y HF HS (yl_len_slice Tryd.underlying22 rfl) rfl rfl ?_; clear HF ac; intro ac HF
  refine sx_y HF HS (yl_sub64 (r := ((q.length : Nat) : Int)) rfl rfl (by omega) (by omega)) rfl rfl ?_; clear HF ac; intro ac HF
  refine sx_y HF HS (yl_assign rfl) rfl rfl ?_; clear HF ac; intro ac HF
  refine sx_y HF HS (yl_assign rfl) rfl rfl ?_; clear HF ac; intro ac HF
  refine wpList_nil ?_
  refine then_n ?_
  refine wp_seq ?_
  refine wp_seq ?_
  refine wp_region_lit ?_
  refine sx_y HF HS (yl_move rfl) rfl rfl ?_; clear HF ac; intro ac HF
  refine sx_y HF HS (yl_move rfl) rfl rfl ?_; clear HF ac; intro ac HF
  refine sx_y HF HS (yl_leq rfl rfl (decide_eq_true (by exact (by omega)))) rfl rfl ?_; clear HF ac; intro ac HF
  refine wpList_nil ?_
  refine then_n ?_
  refine cx_true HF rfl ?_
  refine wp_seq ?_
  replace HF := HF.sub (m' := [(0, _), (1, _), (3, _), (4, _), (7, _), (10, _), (11, _), (12, _), (13, _)]) (by repeat (first | exact ag_nil | refine ag_cons rfl ?_))
  refine dx_join HF HS (fun m L R ac w => ∃ g14 g15, Fr ([(14, .pointer (some ⟨g14, 0, none⟩)), (15, .pointer (some ⟨g15, 0, none⟩))] ++ m) 82 ac ∧ St [] w0 (⟨g15, sgA [(32, hv x.2)], 33⟩ :: ⟨g14, sgA [(32, hv x.1)], 33⟩ :: L) R w) ?_ ?_
  · clear HF HS ac w
    rintro ac w ⟨g14, g15, HF, HS⟩
    refine then_n ?_
    refine wp_seq ?_
    refine dx_region 7 (by kernel_rfl) HS.drew (fun _ h => h) ?_; clear HS; intro w HS
    have HH := HS
    refine dx_k (i := 0) HF rfl (by kernel_rfl) (by kernel_rfl) (by kernel_rfl) (by kernel_rfl) (by kernel_rfl) (fun _ _ _ h => h) HH (ld_ag ag33 rfl rfl) rfl rfl ?_; clear HF ac; intro ac HF
    refine dx_p (i := 2) HF rfl (by kernel_rfl) (by kernel_rfl) (by kernel_rfl) (by decide) (fun _ _ _ h => h) (fun _ => HH) (yl_move rfl) rfl rfl ?_; clear HF ac; intro ac HF
    refine dx_p (i := 3) HF rfl (by kernel_rfl) (by kernel_rfl) (by kernel_rfl) (by decide) (fun _ _ _ h => h) (fun _ => HH) (yl_move rfl) rfl rfl ?_; clear HF ac; intro ac HF
    refine dx_p (i := 4) HF rfl (by kernel_rfl) (by kernel_rfl) (by kernel_rfl) (by decide) (fun _ _ _ h => h) (fun _ => HH) (ix_sl Tryd.underlying22 sz33 rfl rfl (by omega) hr.nil0) rfl rfl ?_; clear HF ac; intro ac HF
    refine dx_two (i := 1) (j := 5) (by kernel_rfl) ?_ ?_
    · refine op_y (i := 1) HF rfl rfl rfl HS (ld_ag ag33 rfl rfl) ?_; clear HF ac; intro ac HF
      refine ⟨fun _ => HH, ?_⟩
      refine dx_one (i := 5) (by kernel_rfl) ?_
      refine op_y (i := 5) HF rfl rfl rfl HS (ld_elH ag33 rfl hqs (fun w h => hr.below h.kp)) ?_; clear HF ac; intro ac HF
      refine ⟨fun _ => HH, ?_⟩
      refine dx_one (i := 6) (by kernel_rfl) ?_
      refine op_call (i := 6) HF rfl Tryd.func37 (by kernel_rfl) (by kernel_rfl) (evs_cons rfl (evs_cons rfl evs_nil)) (node_any x.2 s w (hL.below HS.kp) (Nat.le_trans h2 HS.kp.size)) rfl rfl ?_; clear HF ac
      rintro _ w ⟨rfl, k1⟩
      refine ⟨_, rfl, fun ac HF => ?_⟩
      replace HH := HH.call k1
      replace HS := HS.call k1
      clear k1
      refine ⟨fun _ => HH, ?_⟩
      refine dx_one (i := 7) (by kernel_rfl) ?_
      refine op_ef0 (i := 7) HF rfl rfl (ef_store HS sz33 rfl rfl rfl) ?_; clear HS; rintro _ w HS
      refine ⟨fun h => absurd h (by decide), ?_⟩
      refine dx_one (i := 8) (by kernel_rfl) ?_
      refine op_ef0 (i := 8) HF rfl rfl (ef_store HS sz33 rfl rfl rfl) ?_; clear HS; rintro _ w HS
      refine ⟨fun h => absurd h (by decide), ?_⟩
      refine dx_done (by kernel_rfl) ?_
      clear HH
      refine then_n ?_
      refine wp_ret ?_
      refine then_r ?_
      exact rt2 rfl HF HS ⟨⟨_, rfl⟩, ld_ag ag33 rfl rfl⟩ ⟨⟨_, rfl⟩, ld_ag ag33 rfl rfl⟩ ⟨rfl, HS.kp⟩
    · refine op_y (i := 5) HF rfl rfl rfl HS (ld_elH ag33 rfl hqs (fun w h => hr.below h.kp)) ?_; clear HF ac; intro ac HF
      refine ⟨fun _ => HH, ?_⟩
      refine dx_one (i := 1) (by kernel_rfl) ?_
      refine op_y (i := 1) HF rfl rfl rfl HS (ld_ag ag33 rfl rfl) ?_; clear HF ac; intro ac HF
      refine ⟨fun _ => HH, ?_⟩
      refine dx_one (i := 6) (by kernel_rfl) ?_
      refine op_call (i := 6) HF rfl Tryd.func37 (by kernel_rfl) (by kernel_rfl) (evs_cons rfl (evs_cons rfl evs_nil)) (node_any x.2 s w (hL.below HS.kp) (Nat.le_trans h2 HS.kp.size)) rfl rfl ?_; clear HF ac
      rintro _ w ⟨rfl, k1⟩
      refine ⟨_, rfl, fun ac HF => ?_⟩
      replace HH := HH.call k1
      replace HS := HS.call k1
      clear k1
      refine ⟨fun _ => HH, ?_⟩
      refine dx_one (i := 7) (by kernel_rfl) ?_
      refine op_ef0 (i := 7) HF rfl rfl (ef_store HS sz33 rfl rfl rfl) ?_; clear HS; rintro _ w HS
      refine ⟨fun h => absurd h (by decide), ?_⟩
      refine dx_one (i := 8) (by kernel_rfl) ?_
      refine op_ef0 (i := 8) HF rfl rfl (ef_store HS sz33 rfl rfl rfl) ?_; clear HS; rintro _ w HS
      refine ⟨fun h => absurd h (by decide), ?_⟩
      refine dx_done (by kernel_rfl) ?_
      clear HH
      refine then_n ?_
      refine wp_ret ?_
      refine then_r ?_
      exact rt2 rfl HF HS ⟨⟨_, rfl⟩, ld_ag ag33 rfl rfl⟩ ⟨⟨_, rfl⟩, ld_ag ag33 rfl rfl⟩ ⟨rfl, HS.kp⟩
  · intro J
    refine dx_region 7 (by kernel_rfl) HS.drew (fun _ h => h) ?_; clear HS; intro w HS
    have HH := HS
    refine dx_p (i := 0) HF rfl (by kernel_rfl) (by kernel_rfl) (by kernel_rfl) (by decide) (fun _ _ _ h => h) (fun _ => HH) (yl_move rfl) rfl rfl ?_; clear HF ac; intro ac HF
    refine dx_p (i := 1) HF rfl (by kernel_rfl) (by kernel_rfl) (by kernel_rfl) (by decide) (fun _ _ _ h => h) (fun _ => HH) (yl_move rfl) rfl rfl ?_; clear HF ac; intro ac HF
    refine dx_k (i := 2) HF rfl (by kernel_rfl) (by kernel_rfl) (by kernel_rfl) (by kernel_rfl) (by kernel_rfl) (fun _ _ _ h => h) HH (ld_ag ag33 rfl rfl) rfl rfl ?_; clear HF ac; intro ac HF
    refine dx_p (i := 3) HF rfl (by kernel_rfl) (by kernel_rfl) (by kernel_rfl) (by decide) (fun _ _ _ h => h) (fun _ => HH) (yl_move rfl) rfl rfl ?_; clear HF ac; intro ac HF
    refine dx_p (i := 4) HF rfl (by kernel_rfl) (by kernel_rfl) (by kernel_rfl) (by decide) (fun _ _ _ h => h) (fun _ => HH) (yl_move rfl) rfl rfl ?_; clear HF ac; intro ac HF
    refine dx_p (i := 5) HF rfl (by kernel_rfl) (by kernel_rfl) (by kernel_rfl) (by decide) (fun _ _ _ h => h) (fun _ => HH) (yl_move rfl) rfl rfl ?_; clear HF ac; intro ac HF
    refine dx_p (i := 6) HF rfl (by kernel_rfl) (by kernel_rfl) (by kernel_rfl) (by decide) (fun _ _ _ h => h) (fun _ => HH) (sl_hi (r := q.length) Tryd.underlying22 sz33 rfl rfl (by omega) rfl) rfl rfl ?_; clear HF ac; intro ac HF
    refine dx_three (i := 7) (j := 11) (j2 := 12) (by kernel_rfl) ?_ ?_ ?_
    · refine op_call (i := 7) HF rfl Tryd.func150 (by kernel_rfl) (by kernel_rfl) (evs_cons rfl (evs_cons rfl (evs_cons rfl (evs_cons rfl (evs_cons rfl evs_nil))))) (IH w HS.kp) rfl rfl ?_; clear HF ac
      rintro _ w ⟨rfl, k1⟩
      refine ⟨_, rfl, fun ac HF => ?_⟩
      replace HS := HS.call k1
      clear k1
      refine ⟨fun h => absurd h (by decide), ?_⟩
      refine dx_p (i := 8) HF rfl (by kernel_rfl) (by kernel_rfl) (by kernel_rfl) (by decide) (fun _ _ _ h => h) (fun h => absurd h (by decide)) (yl_move rfl) rfl rfl ?_; clear HF ac; intro ac HF
      refine dx_p (i := 9) HF rfl (by kernel_rfl) (by kernel_rfl) (by kernel_rfl) (by decide) (fun _ _ _ h => h) (fun h => absurd h (by decide)) (yl_extract rfl rfl) rfl rfl ?_; clear HF ac; intro ac HF
      refine dx_p (i := 10) HF rfl (by kernel_rfl) (by kernel_rfl) (by kernel_rfl) (by decide) (fun _ _ _ h => h) (fun h => absurd h (by decide)) (yl_extract rfl rfl) rfl rfl ?_; clear HF ac; intro ac HF
      refine dx_two (i := 11) (j := 12) (by kernel_rfl) ?_ ?_
      · refine op_ef (i := 11) HF rfl rfl rfl (ef_alloc HS ze33) ?_; clear HF HS ac; rintro _ w ac ⟨g14, rfl, HS⟩ HF
        refine ⟨fun h => absurd h (by decide), ?_⟩
        refine dx_one (i := 12) (by kernel_rfl) ?_
        refine op_ef (i := 12) HF rfl rfl rfl (ef_alloc HS ze33) ?_; clear HF HS ac; rintro _ w ac ⟨g15, rfl, HS⟩ HF
        refine ⟨fun h => absurd h (by decide), ?_⟩
        refine dx_one (i := 13) (by kernel_rfl) ?_
        refine op_ef0 (i := 13) HF rfl rfl (ef_store HS sz33 rfl rfl rfl) ?_; clear HS; rintro _ w HS
        refine ⟨fun h => absurd h (by decide), ?_⟩
        refine dx_one (i := 14) (by kernel_rfl) ?_
        refine op_ef0 (i := 14) HF rfl rfl (ef_store HS sz33 rfl rfl rfl) ?_; clear HS; rintro _ w HS
        refine ⟨fun h => absurd h (by decide), ?_⟩
        refine dx_done (by kernel_rfl) ?_
        exact J _ _ ⟨_, _, HF.sub (by repeat (first | exact ag_nil | refine ag_cons rfl ?_)), HS⟩
      · refine op_ef (i := 12) HF rfl rfl rfl (ef_alloc HS ze33) ?_; clear HF HS ac; rintro _ w ac ⟨g15, rfl, HS⟩ HF
        refine ⟨fun h => absurd h (by decide), ?_⟩
        refine dx_one (i := 11) (by kernel_rfl) ?_
        refine op_ef (i := 11) HF rfl rfl rfl (ef_alloc HS ze33) ?_; clear HF HS ac; rintro _ w ac ⟨g14, rfl, HS⟩ HF
        refine ⟨fun h => absurd h (by decide), ?_⟩
        refine dx_one (i := 13) (by kernel_rfl) ?_
        refine op_ef0 (i := 13) HF rfl rfl (ef_store HS sz33 rfl rfl rfl) ?_; clear HS; rintro _ w HS
        refine ⟨fun h => absurd h (by decide), ?_⟩
        refine dx_one (i := 14) (by kernel_rfl) ?_
        refine op_ef0 (i := 14) HF rfl rfl (ef_store HS sz33 rfl rfl rfl) ?_; clear HS; rintro _ w HS
        refine ⟨fun h => absurd h (by decide), ?_⟩
        refine dx_done (by kernel_rfl) ?_
        exact J _ _ ⟨_, _, HF.sub (by repeat (first | exact ag_nil | refine ag_cons rfl ?_)), HS.swap⟩
    · refine op_ef (i := 11) HF rfl rfl rfl (ef_alloc HS ze33) ?_; clear HF HS ac; rintro _ w ac ⟨g14, rfl, HS⟩ HF
      replace HH := HS.d1
      refine ⟨fun _ => HH, ?_⟩
      refine dx_two (i := 7) (j := 12) (by kernel_rfl) ?_ ?_
      · refine op_call (i := 7) HF rfl Tryd.func150 (by kernel_rfl) (by kernel_rfl) (evs_cons rfl (evs_cons rfl (evs_cons rfl (evs_cons rfl (evs_cons rfl evs_nil))))) (IH w HS.kp) rfl rfl ?_; clear HF ac
        rintro _ w ⟨rfl, k1⟩
        refine ⟨_, rfl, fun ac HF => ?_⟩
        replace HS := HS.call k1
        clear k1
        refine ⟨fun h => absurd h (by decide), ?_⟩
        refine dx_p (i := 8) HF rfl (by kernel_rfl) (by kernel_rfl) (by kernel_rfl) (by decide) (fun _ _ _ h => h) (fun h => absurd h (by decide)) (yl_move rfl) rfl rfl ?_; clear HF ac; intro ac HF
        refine dx_p (i := 9) HF rfl (by kernel_rfl) (by kernel_rfl) (by kernel_rfl) (by decide) (fun _ _ _ h => h) (fun h => absurd h (by decide)) (yl_extract rfl rfl) rfl rfl ?_; clear HF ac; intro ac HF
        refine dx_p (i := 10) HF rfl (by kernel_rfl) (by kernel_rfl) (by kernel_rfl) (by decide) (fun _ _ _ h => h) (fun h => absurd h (by decide)) (yl_extract rfl rfl) rfl rfl ?_; clear HF ac; intro ac HF
        refine dx_one (i := 12) (by kernel_rfl) ?_
        refine op_ef (i := 12) HF rfl rfl rfl (ef_alloc HS ze33) ?_; clear HF HS ac; rintro _ w ac ⟨g15, rfl, HS⟩ HF
        refine ⟨fun h => absurd h (by decide), ?_⟩
        refine dx_one (i := 13) (by kernel_rfl) ?_
        refine op_ef0 (i := 13) HF rfl rfl (ef_store HS sz33 rfl rfl rfl) ?_; clear HS; rintro _ w HS
        refine ⟨fun h => absurd h (by decide), ?_⟩
        refine dx_one (i := 14) (by kernel_rfl) ?_
        refine op_ef0 (i := 14) HF rfl rfl (ef_store HS sz33 rfl rfl rfl) ?_; clear HS; rintro _ w HS
        refine ⟨fun h => absurd h (by decide), ?_⟩
        refine dx_done (by kernel_rfl) ?_
        exact J _ _ ⟨_, _, HF.sub (by repeat (first | exact ag_nil | refine ag_cons rfl ?_)), HS⟩
      · refine op_ef (i := 12) HF rfl rfl rfl (ef_alloc HS ze33) ?_; clear HF HS ac; rintro _ w ac ⟨g15, rfl, HS⟩ HF
        replace HH := HS.d2
        refine ⟨fun _ => HH, ?_⟩
        refine dx_one (i := 7) (by kernel_rfl) ?_
        refine op_call (i := 7) HF rfl Tryd.func150 (by kernel_rfl) (by kernel_rfl) (evs_cons rfl (evs_cons rfl (evs_cons rfl (evs_cons rfl (evs_cons rfl evs_nil))))) (IH w HS.kp) rfl rfl ?_; clear HF ac
        rintro _ w ⟨rfl, k1⟩
        refine ⟨_, rfl, fun ac HF => ?_⟩
        replace HS := HS.call k1
        clear k1
        refine ⟨fun h => absurd h (by decide), ?_⟩
        refine dx_p (i := 8) HF rfl (by kernel_rfl) (by kernel_rfl) (by kernel_rfl) (by decide) (fun _ _ _ h => h) (fun h => absurd h (by decide)) (yl_move rfl) rfl rfl ?_; clear HF ac; intro ac HF
        refine dx_p (i := 9) HF rfl (by kernel_rfl) (by kernel_rfl) (by kernel_rfl) (by decide) (fun _ _ _ h => h) (fun h => absurd h (by decide)) (yl_extract rfl rfl) rfl rfl ?_; clear HF ac; intro ac HF
        refine dx_p (i := 10) HF rfl (by kernel_rfl) (by kernel_rfl) (by kernel_rfl) (by decide) (fun _ _ _ h => h) (fun h => absurd h (by decide)) (yl_extract rfl rfl) rfl rfl ?_; clear HF ac; intro ac HF
        refine dx_one (i := 13) (by kernel_rfl) ?_
        refine op_ef0 (i := 13) HF rfl rfl (ef_store HS sz33 rfl rfl rfl) ?_; clear HS; rintro _ w HS
        refine ⟨fun h => absurd h (by decide), ?_⟩
        refine dx_one (i := 14) (by kernel_rfl) ?_
        refine op_ef0 (i := 14) HF rfl rfl (ef_store HS sz33 rfl rfl rfl) ?_; clear HS; rintro _ w HS
        refine ⟨fun h => absurd h (by decide), ?_⟩
        refine dx_done (by kernel_rfl) ?_
        exact J _ _ ⟨_, _, HF.sub (by repeat (first | exact ag_nil | refine ag_cons rfl ?_)), HS⟩
    · refine op_ef (i := 12) HF rfl rfl rfl (ef_alloc HS ze33) ?_; clear HF HS ac; rintro _ w ac ⟨g15, rfl, HS⟩ HF
      replace HH := HS.d1
      refine ⟨fun _ => HH, ?_⟩
      refine dx_two (i := 7) (j := 11) (by kernel_rfl) ?_ ?_
      · refine op_call (i := 7) HF rfl Tryd.func150 (by kernel_rfl) (by kernel_rfl) (evs_cons rfl (evs_cons rfl (evs_cons rfl (evs_cons rfl (evs_cons rfl evs_nil))))) (IH w HS.kp) rfl rfl ?_; clear HF ac
        rintro _ w ⟨rfl, k1⟩
        refine ⟨_, rfl, fun ac HF => ?_⟩
        replace HS := HS.call k1
        clear k1
        refine ⟨fun h => absurd h (by decide), ?_⟩
        refine dx_p (i := 8) HF rfl (by kernel_rfl) (by kernel_rfl) (by kernel_rfl) (by decide) (fun _ _ _ h => h) (fun h => absurd h (by decide)) (yl_move rfl) rfl rfl ?_; clear HF ac; intro ac HF
        refine dx_p (i := 9) HF rfl (by kernel_rfl) (by kernel_rfl) (by kernel_rfl) (by decide) (fun _ _ _ h => h) (fun h => absurd h (by decide)) (yl_extract rfl rfl) rfl rfl ?_; clear HF ac; intro ac HF
        refine dx_p (i := 10) HF rfl (by kernel_rfl) (by kernel_rfl) (by kernel_rfl) (by decide) (fun _ _ _ h => h) (fun h => absurd h (by decide)) (yl_extract rfl rfl) rfl rfl ?_; clear HF ac; intro ac HF
        refine dx_one (i := 11) (by kernel_rfl) ?_
        refine op_ef (i := 11) HF rfl rfl rfl (ef_alloc HS ze33) ?_; clear HF HS ac; rintro _ w ac ⟨g14, rfl, HS⟩ HF
        refine ⟨fun h => absurd h (by decide), ?_⟩
        refine dx_one (i := 13) (by kernel_rfl) ?_
        refine op_ef0 (i := 13) HF rfl rfl (ef_store HS sz33 rfl rfl rfl) ?_; clear HS; rintro _ w HS
        refine ⟨fun h => absurd h (by decide), ?_⟩
        refine dx_one (i := 14) (by kernel_rfl) ?_
        refine op_ef0 (i := 14) HF rfl rfl (ef_store HS sz33 rfl rfl rfl) ?_; clear HS; rintro _ w HS
        refine ⟨fun h => absurd h (by decide), ?_⟩
        refine dx_done (by kernel_rfl) ?_
        exact J _ _ ⟨_, _, HF.sub (by repeat (first | exact ag_nil | refine ag_cons rfl ?_)), HS.swap⟩
      · refine op_ef (i := 11) HF rfl rfl rfl (ef_alloc HS ze33) ?_; clear HF HS ac; rintro _ w ac ⟨g14, rfl, HS⟩ HF
        replace HH := HS.d2
        refine ⟨fun _ => HH, ?_⟩
        refine dx_one (i := 7) (by kernel_rfl) ?_
        refine op_call (i := 7) HF rfl Tryd.func150 (by kernel_rfl) (by kernel_rfl) (evs_cons rfl (evs_cons rfl (evs_cons rfl (evs_cons rfl (evs_cons rfl evs_nil))))) (IH w HS.kp) rfl rfl ?_; clear HF ac
        rintro _ w ⟨rfl, k1⟩
        refine ⟨_, rfl, fun ac HF => ?_⟩
        replace HS := HS.call k1
        clear k1
        refine ⟨fun h => absurd h (by decide), ?_⟩
        refine dx_p (i := 8) HF rfl (by kernel_rfl) (by kernel_rfl) (by kernel_rfl) (by decide) (fun _ _ _ h => h) (fun h => absurd h (by decide)) (yl_move rfl) rfl rfl ?_; clear HF ac; intro ac HF
        refine dx_p (i := 9) HF rfl (by kernel_rfl) (by kernel_rfl) (by kernel_rfl) (by decide) (fun _ _ _ h => h) (fun h => absurd h (by decide)) (yl_extract rfl rfl) rfl rfl ?_; clear HF ac; intro ac HF
        refine dx_p (i := 10) HF rfl (by kernel_rfl) (by kernel_rfl) (by kernel_rfl) (by decide) (fun _ _ _ h => h) (fun h => absurd h (by decide)) (yl_extract rfl rfl) rfl rfl ?_; clear HF ac; intro ac HF
        refine dx_one (i := 13) (by kernel_rfl) ?_
        refine op_ef0 (i := 13) HF rfl rfl (ef_store HS sz33 rfl rfl rfl) ?_; clear HS; rintro _ w HS
        refine ⟨fun h => absurd h (by decide), ?_⟩
        refine dx_one (i := 14) (by kernel_rfl) ?_
        refine op_ef0 (i := 14) HF rfl rfl (ef_store HS sz33 rfl rfl rfl) ?_; clear HS; rintro _ w HS
        refine ⟨fun h => absurd h (by decide), ?_⟩
        refine dx_done (by kernel_rfl) ?_
        exact J _ _ ⟨_, _, HF.sub (by repeat (first | exact ag_nil | refine ag_cons rfl ?_)), HS.swap⟩

set_option maxRecDepth 100000 in
theorem inner_right (m n : Nat) (old : Hsh) (ps : List Hsh) (a : Option Addr) (c : Nat) (w0 : World) (hr : Rd w0 a ps.length c 32 (hsc ps)) (own : Bool) (h1 : 1 ≤ m) (hmn : m < n) (hb : n ≤ 1152921504606846976) (q : List Hsh) (s : Hsh) (hq : ps = q ++ [s]) (x : Hsh × Hsh) (hk : ¬ m ≤ sp n) (IH : ∀ w, Kp [] w0 w → Calls Tryd.prog 150 #[.int .i64 ((m - sp n : Nat) : Int), .int .i64 ((n - sp n : Nat) : Int), hv old, .bool false, .slice a q.length c] w fun e w' => e = .returned (.tuple #[hv x.1, hv x.2]) ∧ Kp [] w w') (hL : Laid w0) (h2 : 4 ≤ w0.heap.size) :
    Calls Tryd.prog 150 #[.int .i64 (m : Int), .int .i64 (n : Int), hv old, .bool own, .slice a ps.length c] w0 fun e w' => e = .returned (.tuple #[hv (nodeH s x.1), hv (nodeH s x.2)]) ∧ Kp [] w0 w' := by
  obtain ⟨_, _, hs1, hs2, hs3⟩ := sp_spec n (by omega) (by omega)
  have hql : ps.length = q.length + 1 := by rw [hq]; simp
  have hqs : ps[q.length]? = some s := by rw [hq]; simp
  have hlmb := hr.lim
  refine calls_st (F := []) (args := [.int .i64 (m : Int), .int .i64 (n : Int), hv old, .bool own, .slice a ps.length c]) Tryd.func150 rfl (n := 82) rfl rfl ?_
  intro ac w HF HS
  refine wp_seq ?_
  refine wp_region_lit ?_
  refine sx_ef HF (ef_box (n := 32) HS rfl) rfl rfl ?_; clear HF HS ac; rintro _ w ac ⟨g7, rfl, HS⟩ HF
  refine sx_ef HF (ef_alloc HS ze33) rfl rfl ?_; clear HF HS ac; rintro _ w ac ⟨g10, rfl, HS⟩ HF
  refine sx_ef HF (ef_alloc HS ze33) rfl rfl ?_; clear HF HS ac; rintro _ w ac ⟨g11, rfl, HS⟩ HF
  refine wpList_nil ?_
  refine then_n ?_
  refine wp_seq ?_
  refine wp_seq ?_
  refine wp_region_lit ?_
  refine sx_y HF HS (yl_move rfl) rfl rfl ?_; clear HF ac; intro ac HF
  refine sx_y HF HS (yl_move rfl) rfl rfl ?_; clear HF ac; intro ac HF
  refine sx_y HF HS (yl_eql rfl rfl (decide_eq_false (by omega))) rfl rfl ?_; clear HF ac; intro ac HF
  refine wpList_nil ?_
  refine then_n ?_
  refine cx_false HF rfl ?_
  refine wp_skip ?_
  refine then_n ?_
  refine wp_seq ?_
  refine wp_region_lit ?_
  refine sx_y HF HS (yl_move rfl) rfl rfl ?_; clear HF ac; intro ac HF
  refine sx_call HF Tryd.func101 (by kernel_rfl) (by kernel_rfl) (evs_cons rfl evs_nil) (split_any n w (by omega) (by omega)) rfl rfl ?_; clear HF ac
  rintro _ w ⟨rfl, rfl⟩
  refine ⟨_, rfl, fun ac HF => ?_⟩
  refine sx_y HF HS (yl_move rfl) rfl rfl ?_; clear HF ac; intro ac HF
  refine sx_y HF HS (yl_len_slice Tryd.underlying22 rfl) rfl rfl ?_; clear HF ac; intro ac HF
  refine sx_y HF HS (yl_sub64 (r := ((q.length : Nat) : Int)) rfl rfl (by omega) (by omega)) rfl rfl ?_; clear HF ac; intro ac HF
  refine sx_y HF HS (yl_assign rfl) rfl rfl ?_; clear HF ac; intro ac HF
  refine sx_y HF HS (yl_assign rfl) rfl rfl ?_; clear HF ac; intro ac HF
  refine wpList_nil ?_
  refine then_n ?_
  refine wp_seq ?_
  refine wp_seq ?_
  refine wp_region_lit ?_
  refine sx_y HF HS (yl_move rfl) rfl rfl ?_; clear HF ac; intro ac HF
  refine sx_y HF HS (yl_move rfl) rfl rfl ?_; clear HF ac; intro ac HF
  refine sx_y HF HS (yl_leq rfl rfl (decide_eq_false (by exact (by omega)))) rfl rfl ?_; clear HF ac; intro ac HF
  refine wpList_nil ?_
  refine then_n ?_
  refine cx_false HF rfl ?_
  refine wp_skip ?_
  refine then_n ?_
  refine wp_seq ?_
  replace HF := HF.sub (m' := [(0, _), (1, _), (4, _), (7, _), (10, _), (11, _), (12, _), (13, _)]) (by repeat (first | exact ag_nil | refine ag_cons rfl ?_))
  refine dx_join HF HS (fun m L R ac w => ∃ g16 g17, Fr ([(16, .pointer (some ⟨g16, 0, none⟩)), (17, .pointer (some ⟨g17, 0, none⟩))] ++ m) 82 ac ∧ St [] w0 (⟨g17, sgA [(32, hv x.2)], 33⟩ :: ⟨g16, sgA [(32, hv x.1)], 33⟩ :: L) R w) ?_ ?_
  · clear HF HS ac w
    rintro ac w ⟨g16, g17, HF, HS⟩
    refine then_n ?_
    refine wp_seq ?_
    refine dx_region 12 (by kernel_rfl) HS.drew (fun _ h => h) ?_; clear HS; intro w HS
    have HH := HS
    refine dx_p (i := 0) HF rfl (by kernel_rfl) (by kernel_rfl) (by kernel_rfl) (by decide) (fun _ _ _ h => h) (fun _ => HH) (yl_move rfl) rfl rfl ?_; clear HF ac; intro ac HF
    refine dx_p (i := 1) HF rfl (by kernel_rfl) (by kernel_rfl) (by kernel_rfl) (by decide) (fun _ _ _ h => h) (fun _ => HH) (yl_move rfl) rfl rfl ?_; clear HF ac; intro ac HF
    refine dx_p (i := 2) HF rfl (by kernel_rfl) (by kernel_rfl) (by kernel_rfl) (by decide) (fun _ _ _ h => h) (fun _ => HH) (ix_sl Tryd.underlying22 sz33 rfl rfl (by omega) hr.nil0) rfl rfl ?_; clear HF ac; intro ac HF
    refine dx_k (i := 3) HF rfl (by kernel_rfl) (by kernel_rfl) (by kernel_rfl) (by kernel_rfl) (by kernel_rfl) (fun _ _ _ h => h) HH (ld_elH ag33 rfl hqs (fun w h => hr.below h.kp)) rfl rfl ?_; clear HF ac; intro ac HF
    refine dx_k (i := 4) HF rfl (by kernel_rfl) (by kernel_rfl) (by kernel_rfl) (by kernel_rfl) (by kernel_rfl) (fun _ _ _ h => h) HH (ld_ag ag33 rfl rfl) rfl rfl ?_; clear HF ac; intro ac HF
    refine dx_p (i := 6) HF rfl (by kernel_rfl) (by kernel_rfl) (by kernel_rfl) (by decide) (fun _ _ _ h => h) (fun _ => HH) (yl_move rfl) rfl rfl ?_; clear HF ac; intro ac HF
    refine dx_p (i := 7) HF rfl (by kernel_rfl) (by kernel_rfl) (by kernel_rfl) (by decide) (fun _ _ _ h => h) (fun _ => HH) (yl_move rfl) rfl rfl ?_; clear HF ac; intro ac HF
    refine dx_p (i := 8) HF rfl (by kernel_rfl) (by kernel_rfl) (by kernel_rfl) (by decide) (fun _ _ _ h => h) (fun _ => HH) (ix_sl Tryd.underlying22 sz33 rfl rfl (by omega) hr.nil0) rfl rfl ?_; clear HF ac; intro ac HF
    refine dx_three (i := 5) (j := 9) (j2 := 10) (by kernel_rfl) ?_ ?_ ?_
    · refine op_call (i := 5) HF rfl Tryd.func37 (by kernel_rfl) (by kernel_rfl) (evs_cons rfl (evs_cons rfl evs_nil)) (node_any s x.1 w (hL.below HS.kp) (Nat.le_trans h2 HS.kp.size)) rfl rfl ?_; clear HF ac
      rintro _ w ⟨rfl, k1⟩
      refine ⟨_, rfl, fun ac HF => ?_⟩
      replace HH := HH.call k1
      replace HS := HS.call k1
      clear k1
      refine ⟨fun _ => HH, ?_⟩
      refine dx_two (i := 9) (j := 10) (by kernel_rfl) ?_ ?_
      · refine op_y (i := 9) HF rfl rfl rfl HS (ld_elH ag33 rfl hqs (fun w h => hr.below h.kp)) ?_; clear HF ac; intro ac HF
        refine ⟨fun _ => HH, ?_⟩
        refine dx_one (i := 10) (by kernel_rfl) ?_
        refine op_y (i := 10) HF rfl rfl rfl HS (ld_ag ag33 rfl rfl) ?_; clear HF ac; intro ac HF
        refine ⟨fun _ => HH, ?_⟩
        refine dx_one (i := 11) (by kernel_rfl) ?_
        refine op_call (i := 11) HF rfl Tryd.func37 (by kernel_rfl) (by kernel_rfl) (evs_cons rfl (evs_cons rfl evs_nil)) (node_any s x.2 w (hL.below HS.kp) (Nat.le_trans h2 HS.kp.size)) rfl rfl ?_; clear HF ac
        rintro _ w ⟨rfl, k1⟩
        refine ⟨_, rfl, fun ac HF => ?_⟩
        replace HH := HH.call k1
        replace HS := HS.call k1
        clear k1
        refine ⟨fun _ => HH, ?_⟩
        refine dx_one (i := 12) (by kernel_rfl) ?_
        refine op_ef0 (i := 12) HF rfl rfl (ef_store HS sz33 rfl rfl rfl) ?_; clear HS; rintro _ w HS
        refine ⟨fun h => absurd h (by decide), ?_⟩
        refine dx_one (i := 13) (by kernel_rfl) ?_
        refine op_ef0 (i := 13) HF rfl rfl (ef_store HS sz33 rfl rfl rfl) ?_; clear HS; rintro _ w HS
        refine ⟨fun h => absurd h (by decide), ?_⟩
        refine dx_done (by kernel_rfl) ?_
        clear HH
        refine then_n ?_
        refine wp_ret ?_
        exact rt2 rfl HF HS ⟨⟨_, rfl⟩, ld_ag ag33 rfl rfl⟩ ⟨⟨_, rfl⟩, ld_ag ag33 rfl rfl⟩ ⟨rfl, HS.kp⟩
      · refine op_y (i := 10) HF rfl rfl rfl HS (ld_ag ag33 rfl rfl) ?_; clear HF ac; intro ac HF
        refine ⟨fun _ => HH, ?_⟩
        refine dx_one (i := 9) (by kernel_rfl) ?_
        refine op_y (i := 9) HF rfl rfl rfl HS (ld_elH ag33 rfl hqs (fun w h => hr.below h.kp)) ?_; clear HF ac; intro ac HF
        refine ⟨fun _ => HH, ?_⟩
        refine dx_one (i := 11) (by kernel_rfl) ?_
        refine op_call (i := 11) HF rfl Tryd.func37 (by kernel_rfl) (by kernel_rfl) (evs_cons rfl (evs_cons rfl evs_nil)) (node_any s x.2 w (hL.below HS.kp) (Nat.le_trans h2 HS.kp.size)) rfl rfl ?_; clear HF ac
        rintro _ w ⟨rfl, k1⟩
        refine ⟨_, rfl, fun ac HF => ?_⟩
        replace HH := HH.call k1
        replace HS := HS.call k1
        clear k1
        refine ⟨fun _ => HH, ?_⟩
        refine dx_one (i := 12) (by kernel_rfl) ?_
        refine op_ef0 (i := 12) HF rfl rfl (ef_store HS sz33 rfl rfl rfl) ?_; clear HS; rintro _ w HS
        refine ⟨fun h => absurd h (by decide), ?_⟩
        refine dx_one (i := 13) (by kernel_rfl) ?_
        refine op_ef0 (i := 13) HF rfl rfl (ef_store HS sz33 rfl rfl rfl) ?_; clear HS; rintro _ w HS
        refine ⟨fun h => absurd h (by decide), ?_⟩
        refine dx_done (by kernel_rfl) ?_
        clear HH
        refine then_n ?_
        refine wp_ret ?_
        exact rt2 rfl HF HS ⟨⟨_, rfl⟩, ld_ag ag33 rfl rfl⟩ ⟨⟨_, rfl⟩, ld_ag ag33 rfl rfl⟩ ⟨rfl, HS.kp⟩
    · refine op_y (i := 9) HF rfl rfl rfl HS (ld_elH ag33 rfl hqs (fun w h => hr.below h.kp)) ?_; clear HF ac; intro ac HF
      refine ⟨fun _ => HH, ?_⟩
      refine dx_two (i := 5) (j := 10) (by kernel_rfl) ?_ ?_
      · refine op_call (i := 5) HF rfl Tryd.func37 (by kernel_rfl) (by kernel_rfl) (evs_cons rfl (evs_cons rfl evs_nil)) (node_any s x.1 w (hL.below HS.kp) (Nat.le_trans h2 HS.kp.size)) rfl rfl ?_; clear HF ac
        rintro _ w ⟨rfl, k1⟩
        refine ⟨_, rfl, fun ac HF => ?_⟩
        replace HH := HH.call k1
        replace HS := HS.call k1
        clear k1
        refine ⟨fun _ => HH, ?_⟩
        refine dx_one (i := 10) (by kernel_rfl) ?_
        refine op_y (i := 10) HF rfl rfl rfl HS (ld_ag ag33 rfl rfl) ?_; clear HF ac; intro ac HF
        refine ⟨fun _ => HH, ?_⟩
        refine dx_one (i := 11) (by kernel_rfl) ?_
        refine op_call (i := 11) HF rfl Tryd.func37 (by kernel_rfl) (by kernel_rfl) (evs_cons rfl (evs_cons rfl evs_nil)) (node_any s x.2 w (hL.below HS.kp) (Nat.le_trans h2 HS.kp.size)) rfl rfl ?_; clear HF ac
        rintro _ w ⟨rfl, k1⟩
        refine ⟨_, rfl, fun ac HF => ?_⟩
        replace HH := HH.call k1
        replace HS := HS.call k1
        clear k1
        refine ⟨fun _ => HH, ?_⟩
        refine dx_one (i := 12) (by kernel_rfl) ?_
        refine op_ef0 (i := 12) HF rfl rfl (ef_store HS sz33 rfl rfl rfl) ?_; clear HS; rintro _ w HS
        refine ⟨fun h => absurd h (by decide), ?_⟩
        refine dx_one (i := 13) (by kernel_rfl) ?_
        refine op_ef0 (i := 13) HF rfl rfl (ef_store HS sz33 rfl rfl rfl) ?_; clear HS; rintro _ w HS
        refine ⟨fun h => absurd h (by decide), ?_⟩
        refine dx_done (by kernel_rfl) ?_
        clear HH
        refine then_n ?_
        refine wp_ret ?_
        exact rt2 rfl HF HS ⟨⟨_, rfl⟩, ld_ag ag33 rfl rfl⟩ ⟨⟨_, rfl⟩, ld_ag ag33 rfl rfl⟩ ⟨rfl, HS.kp⟩
      · refine op_y (i := 10) HF rfl rfl rfl HS (ld_ag ag33 rfl rfl) ?_; clear HF ac; intro ac HF
        refine ⟨fun _ => HH, ?_⟩
        refine dx_one (i := 5) (by kernel_rfl) ?_
        refine op_call (i := 5) HF rfl Tryd.func37 (by kernel_rfl) (by kernel_rfl) (evs_cons rfl (evs_cons rfl evs_nil)) (node_any s x.1 w (hL.below HS.kp) (Nat.le_trans h2 HS.kp.size)) rfl rfl ?_; clear HF ac
        rintro _ w ⟨rfl, k1⟩
        refine ⟨_, rfl, fun ac HF => ?_⟩
        replace HH := HH.call k1
        replace HS := HS.call k1
        clear k1
        refine ⟨fun _ => HH, ?_⟩
        refine dx_one (i := 11) (by kernel_rfl) ?_
        refine op_call (i := 11) HF rfl Tryd.func37 (by kernel_rfl) (by kernel_rfl) (evs_cons rfl (evs_cons rfl evs_nil)) (node_any s x.2 w (hL.below HS.kp) (Nat.le_trans h2 HS.kp.size)) rfl rfl ?_; clear HF ac
        rintro _ w ⟨rfl, k1⟩
        refine ⟨_, rfl, fun ac HF => ?_⟩
        replace HH := HH.call k1
        replace HS := HS.call k1
        clear k1
        refine ⟨fun _ => HH, ?_⟩
        refine dx_one (i := 12) (by kernel_rfl) ?_
        refine op_ef0 (i := 12) HF rfl rfl (ef_store HS sz33 rfl rfl rfl) ?_; clear HS; rintro _ w HS
        refine ⟨fun h => absurd h (by decide), ?_⟩
        refine dx_one (i := 13) (by kernel_rfl) ?_
        refine op_ef0 (i := 13) HF rfl rfl (ef_store HS sz33 rfl rfl rfl) ?_; clear HS; rintro _ w HS
        refine ⟨fun h => absurd h (by decide), ?_⟩
        refine dx_done (by kernel_rfl) ?_
        clear HH
        refine then_n ?_
        refine wp_ret ?_
        exact rt2 rfl HF HS ⟨⟨_, rfl⟩, ld_ag ag33 rfl rfl⟩ ⟨⟨_, rfl⟩, ld_ag ag33 rfl rfl⟩ ⟨rfl, HS.kp⟩
    · refine op_y (i := 10) HF rfl rfl rfl HS (ld_ag ag33 rfl rfl) ?_; clear HF ac; intro ac HF
      refine ⟨fun _ => HH, ?_⟩
      refine dx_two (i := 5) (j := 9) (by kernel_rfl) ?_ ?_
      · refine op_call (i := 5) HF rfl Tryd.func37 (by kernel_rfl) (by kernel_rfl) (evs_cons rfl (evs_cons rfl evs_nil)) (node_any s x.1 w (hL.below HS.kp) (Nat.le_trans h2 HS.kp.size)) rfl rfl ?_; clear HF ac
        rintro _ w ⟨rfl, k1⟩
        refine ⟨_, rfl, fun ac HF => ?_⟩
        replace HH := HH.call k1
        replace HS := HS.call k1
        clear k1
        refine ⟨fun _ => HH, ?_⟩
        refine dx_one (i := 9) (by kernel_rfl) ?_
        refine op_y (i := 9) HF rfl rfl rfl HS (ld_elH ag33 rfl hqs (fun w h => hr.below h.kp)) ?_; clear HF ac; intro ac HF
        refine ⟨fun _ => HH, ?_⟩
        refine dx_one (i := 11) (by kernel_rfl) ?_
        refine op_call (i := 11) HF rfl Tryd.func37 (by kernel_rfl) (by kernel_rfl) (evs_cons rfl (evs_cons rfl evs_nil)) (node_any s x.2 w (hL.below HS.kp) (Nat.le_trans h2 HS.kp.size)) rfl rfl ?_; clear HF ac
        rintro _ w ⟨rfl, k1⟩
        refine ⟨_, rfl, fun ac HF => ?_⟩
        replace HH := HH.call k1
        replace HS := HS.call k1
        clear k1
        refine ⟨fun _ => HH, ?_⟩
        refine dx_one (i := 12) (by kernel_rfl) ?_
        refine op_ef0 (i := 12) HF rfl rfl (ef_store HS sz33 rfl rfl rfl) ?_; clear HS; rintro _ w HS
        refine ⟨fun h => absurd h (by decide), ?_⟩
        refine dx_one (i := 13) (by kernel_rfl) ?_
        refine op_ef0 (i := 13) HF rfl rfl (ef_store HS sz33 rfl rfl rfl) ?_; clear HS; rintro _ w HS
        refine ⟨fun h => absurd h (by decide), ?_⟩
        refine dx_done (by kernel_rfl) ?_
        clear HH
        refine then_n ?_
        refine wp_ret ?_
        exact rt2 rfl HF HS ⟨⟨_, rfl⟩, ld_ag ag33 rfl rfl⟩ ⟨⟨_, rfl⟩, ld_ag ag33 rfl rfl⟩ ⟨rfl, HS.kp⟩
      · refine op_y (i := 9) HF rfl rfl rfl HS (ld_elH ag33 rfl hqs (fun w h => hr.below h.kp)) ?_; clear HF ac; intro ac HF
        refine ⟨fun _ => HH, ?_⟩
        refine dx_one (i := 5) (by kernel_rfl) ?_
        refine op_call (i := 5) HF rfl Tryd.func37 (by kernel_rfl) (by kernel_rfl) (evs_cons rfl (evs_cons rfl evs_nil)) (node_any s x.1 w (hL.below HS.kp) (Nat.le_trans h2 HS.kp.size)) rfl rfl ?_; clear HF ac
        rintro _ w ⟨rfl, k1⟩
        refine ⟨_, rfl, fun ac HF => ?_⟩
        replace HH := HH.call k1
        replace HS := HS.call k1
        clear k1
        refine ⟨fun _ => HH, ?_⟩
        refine dx_one (i := 11) (by kernel_rfl) ?_
        refine op_call (i := 11) HF rfl Tryd.func37 (by kernel_rfl) (by kernel_rfl) (evs_cons rfl (evs_cons rfl evs_nil)) (node_any s x.2 w (hL.below HS.kp) (Nat.le_trans h2 HS.kp.size)) rfl rfl ?_; clear HF ac
        rintro _ w ⟨rfl, k1⟩
        refine ⟨_, rfl, fun ac HF => ?_⟩
        replace HH := HH.call k1
        replace HS := HS.call k1
        clear k1
        refine ⟨fun _ => HH, ?_⟩
        refine dx_one (i := 12) (by kernel_rfl) ?_
        refine op_ef0 (i := 12) HF rfl rfl (ef_store HS sz33 rfl rfl rfl) ?_; clear HS; rintro _ w HS
        refine ⟨fun h => absurd h (by decide), ?_⟩
        refine dx_one (i := 13) (by kernel_rfl) ?_
        refine op_ef0 (i := 13) HF rfl rfl (ef_store HS sz33 rfl rfl rfl) ?_; clear HS; rintro _ w HS
        refine ⟨fun h => absurd h (by decide), ?_⟩
        refine dx_done (by kernel_rfl) ?_
        clear HH
        refine then_n ?_
        refine wp_ret ?_
        exact rt2 rfl HF HS ⟨⟨_, rfl⟩, ld_ag ag33 rfl rfl⟩ ⟨⟨_, rfl⟩, ld_ag ag33 rfl rfl⟩ ⟨rfl, HS.kp⟩
  · intro J
    refine dx_region 10 (by kernel_rfl) HS.drew (fun _ h => h) ?_; clear HS; intro w HS
    have HH := HS
    refine dx_p (i := 0) HF rfl (by kernel_rfl) (by kernel_rfl) (by kernel_rfl) (by decide) (fun _ _ _ h => h) (fun _ => HH) (yl_move rfl) rfl rfl ?_; clear HF ac; intro ac HF
    refine dx_p (i := 1) HF rfl (by kernel_rfl) (by kernel_rfl) (by kernel_rfl) (by decide) (fun _ _ _ h => h) (fun _ => HH) (yl_move rfl) rfl rfl ?_; clear HF ac; intro ac HF
    refine dx_p (i := 2) HF rfl (by kernel_rfl) (by kernel_rfl) (by kernel_rfl) (by decide) (fun _ _ _ h => h) (fun _ => HH) (yl_sub64 (r := ((m - sp n : Nat) : Int)) rfl rfl (by omega) (by omega)) rfl rfl ?_; clear HF ac; intro ac HF
    refine dx_p (i := 3) HF rfl (by kernel_rfl) (by kernel_rfl) (by kernel_rfl) (by decide) (fun _ _ _ h => h) (fun _ => HH) (yl_move rfl) rfl rfl ?_; clear HF ac; intro ac HF
    refine dx_p (i := 4) HF rfl (by kernel_rfl) (by kernel_rfl) (by kernel_rfl) (by decide) (fun _ _ _ h => h) (fun _ => HH) (yl_move rfl) rfl rfl ?_; clear HF ac; intro ac HF
    refine dx_p (i := 5) HF rfl (by kernel_rfl) (by kernel_rfl) (by kernel_rfl) (by decide) (fun _ _ _ h => h) (fun _ => HH) (yl_sub64 (r := ((n - sp n : Nat) : Int)) rfl rfl (by omega) (by omega)) rfl rfl ?_; clear HF ac; intro ac HF
    refine dx_k (i := 6) HF rfl (by kernel_rfl) (by kernel_rfl) (by kernel_rfl) (by kernel_rfl) (by kernel_rfl) (fun _ _ _ h => h) HH (ld_ag ag33 rfl rfl) rfl rfl ?_; clear HF ac; intro ac HF
    refine dx_p (i := 7) HF rfl (by kernel_rfl) (by kernel_rfl) (by kernel_rfl) (by decide) (fun _ _ _ h => h) (fun _ => HH) (yl_move rfl) rfl rfl ?_; clear HF ac; intro ac HF
    refine dx_p (i := 8) HF rfl (by kernel_rfl) (by kernel_rfl) (by kernel_rfl) (by decide) (fun _ _ _ h => h) (fun _ => HH) (yl_move rfl) rfl rfl ?_; clear HF ac; intro ac HF
    refine dx_p (i := 9) HF rfl (by kernel_rfl) (by kernel_rfl) (by kernel_rfl) (by decide) (fun _ _ _ h => h) (fun _ => HH) (sl_hi (r := q.length) Tryd.underlying22 sz33 rfl rfl (by omega) rfl) rfl rfl ?_; clear HF ac; intro ac HF
    refine dx_three (i := 10) (j := 14) (j2 := 15) (by kernel_rfl) ?_ ?_ ?_
    · refine op_call (i := 10) HF rfl Tryd.func150 (by kernel_rfl) (by kernel_rfl) (evs_cons rfl (evs_cons rfl (evs_cons rfl (evs_cons rfl (evs_cons rfl evs_nil))))) (IH w HS.kp) rfl rfl ?_; clear HF ac
      rintro _ w ⟨rfl, k1⟩
      refine ⟨_, rfl, fun ac HF => ?_⟩
      replace HS := HS.call k1
      clear k1
      refine ⟨fun h => absurd h (by decide), ?_⟩
      refine dx_p (i := 11) HF rfl (by kernel_rfl) (by kernel_rfl) (by kernel_rfl) (by decide) (fun _ _ _ h => h) (fun h => absurd h (by decide)) (yl_move rfl) rfl rfl ?_; clear HF ac; intro ac HF
      refine dx_p (i := 12) HF rfl (by kernel_rfl) (by kernel_rfl) (by kernel_rfl) (by decide) (fun _ _ _ h => h) (fun h => absurd h (by decide)) (yl_extract rfl rfl) rfl rfl ?_; clear HF ac; intro ac HF
      refine dx_p (i := 13) HF rfl (by kernel_rfl) (by kernel_rfl) (by kernel_rfl) (by decide) (fun _ _ _ h => h) (fun h => absurd h (by decide)) (yl_extract rfl rfl) rfl rfl ?_; clear HF ac; intro ac HF
      refine dx_two (i := 14) (j := 15) (by kernel_rfl) ?_ ?_
      · refine op_ef (i := 14) HF rfl rfl rfl (ef_alloc HS ze33) ?_; clear HF HS ac; rintro _ w ac ⟨g16, rfl, HS⟩ HF
        refine ⟨fun h => absurd h (by decide), ?_⟩
        refine dx_one (i := 15) (by kernel_rfl) ?_
        refine op_ef (i := 15) HF rfl rfl rfl (ef_alloc HS ze33) ?_; clear HF HS ac; rintro _ w ac ⟨g17, rfl, HS⟩ HF
        refine ⟨fun h => absurd h (by decide), ?_⟩
        refine dx_one (i := 16) (by kernel_rfl) ?_
        refine op_ef0 (i := 16) HF rfl rfl (ef_store HS sz33 rfl rfl rfl) ?_; clear HS; rintro _ w HS
        refine ⟨fun h => absurd h (by decide), ?_⟩
        refine dx_one (i := 17) (by kernel_rfl) ?_
        refine op_ef0 (i := 17) HF rfl rfl (ef_store HS sz33 rfl rfl rfl) ?_; clear HS; rintro _ w HS
        refine ⟨fun h => absurd h (by decide), ?_⟩
        refine dx_done (by kernel_rfl) ?_
        exact J _ _ ⟨_, _, HF.sub (by repeat (first | exact ag_nil | refine ag_cons rfl ?_)), HS⟩
      · refine op_ef (i := 15) HF rfl rfl rfl (ef_alloc HS ze33) ?_; clear HF HS ac; rintro _ w ac ⟨g17, rfl, HS⟩ HF
        refine ⟨fun h => absurd h (by decide), ?_⟩
        refine dx_one (i := 14) (by kernel_rfl) ?_
        refine op_ef (i := 14) HF rfl rfl rfl (ef_alloc HS ze33) ?_; clear HF HS ac; rintro _ w ac ⟨g16, rfl, HS⟩ HF
        refine ⟨fun h => absurd h (by decide), ?_⟩
        refine dx_one (i := 16) (by kernel_rfl) ?_
        refine op_ef0 (i := 16) HF rfl rfl (ef_store HS sz33 rfl rfl rfl) ?_; clear HS; rintro _ w HS
        refine ⟨fun h => absurd h (by decide), ?_⟩
        refine dx_one (i := 17) (by kernel_rfl) ?_
        refine op_ef0 (i := 17) HF rfl rfl (ef_store HS sz33 rfl rfl rfl) ?_; clear HS; rintro _ w HS
        refine ⟨fun h => absurd h (by decide), ?_⟩
        refine dx_done (by kernel_rfl) ?_
        exact J _ _ ⟨_, _, HF.sub (by repeat (first | exact ag_nil | refine ag_cons rfl ?_)), HS.swap⟩
    · refine op_ef (i := 14) HF rfl rfl rfl (ef_alloc HS ze33) ?_; clear HF HS ac; rintro _ w ac ⟨g16, rfl, HS⟩ HF
      replace HH := HS.d1
      refine ⟨fun _ => HH, ?_⟩
      refine dx_two (i := 10) (j := 15) (by kernel_rfl) ?_ ?_
      · refine op_call (i := 10) HF rfl Tryd.func150 (by kernel_rfl) (by kernel_rfl) (evs_cons rfl (evs_cons rfl (evs_cons rfl (evs_cons rfl (evs_cons rfl evs_nil))))) (IH w HS.kp) rfl rfl ?_; clear HF ac
        rintro _ w ⟨rfl, k1⟩
        refine ⟨_, rfl, fun ac HF => ?_⟩
        replace HS := HS.call k1
        clear k1
        refine ⟨fun h => absurd h (by decide), ?_⟩
        refine dx_p (i := 11) HF rfl (by kernel_rfl) (by kernel_rfl) (by kernel_rfl) (by decide) (fun _ _ _ h => h) (fun h => absurd h (by decide)) (yl_move rfl) rfl rfl ?_; clear HF ac; intro ac HF
        refine dx_p (i := 12) HF rfl (by kernel_rfl) (by kernel_rfl) (by kernel_rfl) (by decide) (fun _ _ _ h => h) (fun h => absurd h (by decide)) (yl_extract rfl rfl) rfl rfl ?_; clear HF ac; intro ac HF
        refine dx_p (i := 13) HF rfl (by kernel_rfl) (by kernel_rfl) (by kernel_rfl) (by decide) (fun _ _ _ h => h) (fun h => absurd h (by decide)) (yl_extract rfl rfl) rfl rfl ?_; clear HF ac; intro ac HF
        refine dx_one (i := 15) (by kernel_rfl) ?_
        refine op_ef (i := 15) HF rfl rfl rfl (ef_alloc HS ze33) ?_; clear HF HS ac; rintro _ w ac ⟨g17, rfl, HS⟩ HF
        refine ⟨fun h => absurd h (by decide), ?_⟩
        refine dx_one (i := 16) (by kernel_rfl) ?_
        refine op_ef0 (i := 16) HF rfl rfl (ef_store HS sz33 rfl rfl rfl) ?_; clear HS; rintro _ w HS
        refine ⟨fun h => absurd h (by decide), ?_⟩
        refine dx_one (i := 17) (by kernel_rfl) ?_
        refine op_ef0 (i := 17) HF rfl rfl (ef_store HS sz33 rfl rfl rfl) ?_; clear HS; rintro _ w HS
        refine ⟨fun h => absurd h (by decide), ?_⟩
        refine dx_done (by kernel_rfl) ?_
        exact J _ _ ⟨_, _, HF.sub (by repeat (first | exact ag_nil | refine ag_cons rfl ?_)), HS⟩
      · refine op_ef (i := 15) HF rfl rfl rfl (ef_alloc HS ze33) ?_; clear HF HS ac; rintro _ w ac ⟨g17, rfl, HS⟩ HF
        replace HH := HS.d2
        refine ⟨fun _ => HH, ?_⟩
        refine dx_one (i := 10) (by kernel_rfl) ?_
        refine op_call (i := 10) HF rfl Tryd.func150 (by kernel_rfl) (by kernel_rfl) (evs_cons rfl (evs_cons rfl (evs_cons rfl (evs_cons rfl (evs_cons rfl evs_nil))))) (IH w HS.kp) rfl rfl ?_; clear HF ac
        rintro _ w ⟨rfl, k1⟩
        refine ⟨_, rfl, fun ac HF => ?_⟩
        replace HS := HS.call k1
        clear k1
        refine ⟨fun h => absurd h (by decide), ?_⟩
        refine dx_p (i := 11) HF rfl (by kernel_rfl) (by kernel_rfl) (by kernel_rfl) (by decide) (fun _ _ _ h => h) (fun h => absurd h (by decide)) (yl_move rfl) rfl rfl ?_; clear HF ac; intro ac HF
        refine dx_p (i := 12) HF rfl (by kernel_rfl) (by kernel_rfl) (by kernel_rfl) (by decide) (fun _ _ _ h => h) (fun h => absurd h (by decide)) (yl_extract rfl rfl) rfl rfl ?_; clear HF ac; intro ac HF
        refine dx_p (i := 13) HF rfl (by kernel_rfl) (by kernel_rfl) (by kernel_rfl) (by decide) (fun _ _ _ h => h) (fun h => absurd h (by decide)) (yl_extract rfl rfl) rfl rfl ?_; clear HF ac; intro ac HF
        refine dx_one (i := 16) (by kernel_rfl) ?_
        refine op_ef0 (i := 16) HF rfl rfl (ef_store HS sz33 rfl rfl rfl) ?_; clear HS; rintro _ w HS
        refine ⟨fun h => absurd h (by decide), ?_⟩
        refine dx_one (i := 17) (by kernel_rfl) ?_
        refine op_ef0 (i := 17) HF rfl rfl (ef_store HS sz33 rfl rfl rfl) ?_; clear HS; rintro _ w HS
        refine ⟨fun h => absurd h (by decide), ?_⟩
        refine dx_done (by kernel_rfl) ?_
        exact J _ _ ⟨_, _, HF.sub (by repeat (first | exact ag_nil | refine ag_cons rfl ?_)), HS⟩
    · refine op_ef (i := 15) HF rfl rfl rfl (ef_alloc HS ze33) ?_; clear HF HS ac; rintro _ w ac ⟨g17, rfl, HS⟩ HF
      replace HH := HS.d1
      refine ⟨fun _ => HH, ?_⟩
      refine dx_two (i := 10) (j := 14) (by kernel_rfl) ?_ ?_
      · refine op_call (i := 10) HF rfl Tryd.func150 (by kernel_rfl) (by kernel_rfl) (evs_cons rfl (evs_cons rfl (evs_cons rfl (evs_cons rfl (evs_cons rfl evs_nil))))) (IH w HS.kp) rfl rfl ?_; clear HF ac
        rintro _ w ⟨rfl, k1⟩
        refine ⟨_, rfl, fun ac HF => ?_⟩
        replace HS := HS.call k1
        clear k1
        refine ⟨fun h => absurd h (by decide), ?_⟩
        refine dx_p (i := 11) HF rfl (by kernel_rfl) (by kernel_rfl) (by kernel_rfl) (by decide) (fun _ _ _ h => h) (fun h => absurd h (by decide)) (yl_move rfl) rfl rfl ?_; clear HF ac; intro ac HF
        refine dx_p (i := 12) HF rfl (by kernel_rfl) (by kernel_rfl) (by kernel_rfl) (by decide) (fun _ _ _ h => h) (fun h => absurd h (by decide)) (yl_extract rfl rfl) rfl rfl ?_; clear HF ac; intro ac HF
        refine dx_p (i := 13) HF rfl (by kernel_rfl) (by kernel_rfl) (by kernel_rfl) (by decide) (fun _ _ _ h => h) (fun h => absurd h (by decide)) (yl_extract rfl rfl) rfl rfl ?_; clear HF ac; intro ac HF
        refine dx_one (i := 14) (by kernel_rfl) ?_
        refine op_ef (i := 14) HF rfl rfl rfl (ef_alloc HS ze33) ?_; clear HF HS ac; rintro _ w ac ⟨g16, rfl, HS⟩ HF
        refine ⟨fun h => absurd h (by decide), ?_⟩
        refine dx_one (i := 16) (by kernel_rfl) ?_
        refine op_ef0 (i := 16) HF rfl rfl (ef_store HS sz33 rfl rfl rfl) ?_; clear HS; rintro _ w HS
        refine ⟨fun h => absurd h (by decide), ?_⟩
        refine dx_one (i := 17) (by kernel_rfl) ?_
        refine op_ef0 (i := 17) HF rfl rfl (ef_store HS sz33 rfl rfl rfl) ?_; clear HS; rintro _ w HS
        refine ⟨fun h => absurd h (by decide), ?_⟩
        refine dx_done (by kernel_rfl) ?_
        exact J _ _ ⟨_, _, HF.sub (by repeat (first | exact ag_nil | refine ag_cons rfl ?_)), HS.swap⟩
      · refine op_ef (i := 14) HF rfl rfl rfl (ef_alloc HS ze33) ?_; clear HF HS ac; rintro _ w ac ⟨g16, rfl, HS⟩ HF
        replace HH := HS.d2
        refine ⟨fun _ => HH, ?_⟩
        refine dx_one (i := 10) (by kernel_rfl) ?_
        refine op_call (i := 10) HF rfl Tryd.func150 (by kernel_rfl) (by kernel_rfl) (evs_cons rfl (evs_cons rfl (evs_cons rfl (evs_cons rfl (evs_cons rfl evs_nil))))) (IH w HS.kp) rfl rfl ?_; clear HF ac
        rintro _ w ⟨rfl, k1⟩
        refine ⟨_, rfl, fun ac HF => ?_⟩
        replace HS := HS.call k1
        clear k1
        refine ⟨fun h => absurd h (by decide), ?_⟩
        refine dx_p (i := 11) HF rfl (by kernel_rfl) (by kernel_rfl) (by kernel_rfl) (by decide) (fun _ _ _ h => h) (fun h => absurd h (by decide)) (yl_move rfl) rfl rfl ?_; clear HF ac; intro ac HF
        refine dx_p (i := 12) HF rfl (by kernel_rfl) (by kernel_rfl) (by kernel_rfl) (by decide) (fun _ _ _ h => h) (fun h => absurd h (by decide)) (yl_extract rfl rfl) rfl rfl ?_; clear HF ac; intro ac HF
        refine dx_p (i := 13) HF rfl (by kernel_rfl) (by kernel_rfl) (by kernel_rfl) (by decide) (fun _ _ _ h => h) (fun h => absurd h (by decide)) (yl_extract rfl rfl) rfl rfl ?_; clear HF ac; intro ac HF
        refine dx_one (i := 16) (by kernel_rfl) ?_
        refine op_ef0 (i := 16) HF rfl rfl (ef_store HS sz33 rfl rfl rfl) ?_; clear HS; rintro _ w HS
        refine ⟨fun h => absurd h (by decide), ?_⟩
        refine dx_one (i := 17) (by kernel_rfl) ?_
        refine op_ef0 (i := 17) HF rfl rfl (ef_store HS sz33 rfl rfl rfl) ?_; clear HS; rintro _ w HS
        refine ⟨fun h => absurd h (by decide), ?_⟩
        refine dx_done (by kernel_rfl) ?_
        exact J _ _ ⟨_, _, HF.sub (by repeat (first | exact ag_nil | refine ag_cons rfl ?_)), HS.swap⟩

theorem inner_any : ∀ (f m n : Nat) (own : Bool) (old : Hsh) (ps : List Hsh) (r : Hsh × Hsh) (a : Option Addr) (c : Nat) (w0 : World), n ≤ f → 1 ≤ m → m ≤ n → n ≤ 1152921504606846976 → Rd w0 a ps.length c 32 (hsc ps) → genF (ownF f m n own) (stepF f m n) old ps = some r → Laid w0 → 4 ≤ w0.heap.size →
    Calls Tryd.prog 150 #[.int .i64 (m : Int), .int .i64 (n : Int), hv old, .bool own, .slice a ps.length c] w0 fun e w' => e = .returned (.tuple #[hv r.1, hv r.2]) ∧ Kp [] w0 w'
  | 0, m, n, _, _, _, _, _, _, _, hf, h1, hmn, _, _, _, _, _ => absurd hf (by omega)
  | f + 1, m, n, own, old, ps, r, a, c, w0, hf, h1, hmn, hb, hr, hg, hL, h2 => by
    by_cases he : n ≤ m
    · obtain ⟨e1, e2⟩ := gen_end he hg
      cases own with
      | true =>
        obtain ⟨_, rfl⟩ := e1 rfl
        exact inner_own m n old ps a c w0 hr (by omega) hL h2
      | false =>
        obtain ⟨q, hq, rfl⟩ := e2 rfl
        exact inner_one m n old ps a c w0 hr (by omega) q hq hL h2
    · obtain ⟨_, _, s1, s2, s3⟩ := sp_spec n (by omega) (by omega)
      obtain ⟨q, s, x, hq, hl, hrt⟩ := gen_top (by omega) hg
      have hqr : Rd w0 a q.length c 32 (hsc q) := by
        have h := hr.takeH q.length (by rw [hq]; simp)
        rwa [hq, List.take_left] at h
      by_cases hk : m ≤ sp n
      · obtain ⟨hx, rfl⟩ := hl hk
        exact inner_left m n old ps a c w0 hr own h1 (by omega) hb q s hq x hk (fun w k => inner_any f m (sp n) own old q x a c w (by omega) h1 hk (by omega) (hqr.below k) hx (hL.below k) (Nat.le_trans h2 k.size)) hL h2
      · obtain ⟨hx, rfl⟩ := hrt hk
        exact inner_right m n old ps a c w0 hr own h1 (by omega) hb q s hq x hk (fun w k => inner_any f (m - sp n) (n - sp n) false old q x a c w (by omega) (by omega) (by omega) (by omega) (hqr.below k) hx (hL.below k) (Nat.le_trans h2 k.size)) hL h2

set_option maxRecDepth 100000 in
theorem second_any (m n : Nat) (old : Hsh) (ps : List Hsh) (a : Option Addr) (c : Nat) (w0 : World) (hr : Rd w0 a ps.length c 32 (hsc ps)) (f : Nat) (own : Bool) (r : Hsh × Hsh) (hf : n ≤ f) (h1 : 1 ≤ m) (hmn : m ≤ n) (hb : n ≤ 1152921504606846976) (hg : genF (ownF f m n own) (stepF f m n) old ps = some r) (hL : Laid w0) (h2 : 4 ≤ w0.heap.size) :
    Calls Tryd.prog 137 #[.int .i64 (m : Int), .int .i64 (n : Int), hv old, .bool own, .slice a ps.length c] w0 fun e w' => e = .returned (hv r.2) ∧ Kp [] w0 w' := by
  refine calls_st (F := []) (args := [.int .i64 (m : Int), .int .i64 (n : Int), hv old, .bool own, .slice a ps.length c]) Tryd.func137 rfl (n := 23) rfl rfl ?_
  intro ac w HF HS
  refine wp_seq ?_
  refine wp_region_lit ?_
  refine sx_ef HF (ef_box (n := 32) HS rfl) rfl rfl ?_; clear HF HS ac; rintro _ w ac ⟨g7, rfl, HS⟩ HF
  refine sx_ef HF (ef_alloc HS ze33) rfl rfl ?_; clear HF HS ac; rintro _ w ac ⟨g10, rfl, HS⟩ HF
  refine wpList_nil ?_
  refine then_n ?_
  refine wp_seq ?_
  refine wp_region_lit ?_
  refine sx_y HF HS (yl_move rfl) rfl rfl ?_; clear HF ac; intro ac HF
  refine sx_y HF HS (yl_move rfl) rfl rfl ?_; clear HF ac; intro ac HF
  refine sx_y HF HS (ld_ag ag33 rfl rfl) rfl rfl ?_; clear HF ac; intro ac HF
  refine sx_y HF HS (yl_move rfl) rfl rfl ?_; clear HF ac; intro ac HF
  refine sx_y HF HS (yl_move rfl) rfl rfl ?_; clear HF ac; intro ac HF
  refine sx_call HF Tryd.func150 (by kernel_rfl) (by kernel_rfl) (evs_cons rfl (evs_cons rfl (evs_cons rfl (evs_cons rfl (evs_cons rfl evs_nil))))) (inner_any f m n own old ps r a c w hf h1 hmn hb (hr.below HS.kp) hg (hL.below HS.kp) (Nat.le_trans h2 HS.kp.size)) rfl rfl ?_; clear HF ac
  rintro _ w ⟨rfl, k1⟩
  refine ⟨_, rfl, fun ac HF => ?_⟩
  replace HS := HS.call k1
  clear k1
  refine sx_y HF HS (yl_move rfl) rfl rfl ?_; clear HF ac; intro ac HF
  refine sx_y HF HS (yl_extract rfl rfl) rfl rfl ?_; clear HF ac; intro ac HF
  refine sx_y HF HS (yl_extract rfl rfl) rfl rfl ?_; clear HF ac; intro ac HF
  refine sx_ef HF (ef_alloc HS ze33) rfl rfl ?_; clear HF HS ac; rintro _ w ac ⟨g11, rfl, HS⟩ HF
  refine sx_ef HF (ef_alloc HS ze33) rfl rfl ?_; clear HF HS ac; rintro _ w ac ⟨g12, rfl, HS⟩ HF
  refine sx_ef0 HF (ef_store HS sz33 rfl rfl rfl) rfl ?_; clear HS; rintro _ w HS
  refine sx_ef0 HF (ef_store HS sz33 rfl rfl rfl) rfl ?_; clear HS; rintro _ w HS
  refine wpList_nil ?_
  refine then_n ?_
  refine wp_seq ?_
  refine wp_region_lit ?_
  refine sx_y HF HS (ld_ag ag33 rfl rfl) rfl rfl ?_; clear HF ac; intro ac HF
  refine sx_ef0 HF (ef_store HS sz33 rfl rfl rfl) rfl ?_; clear HS; rintro _ w HS
  refine wpList_nil ?_
  refine then_n ?_
  refine wp_ret ?_
  exact rt1 rfl HF HS ⟨⟨_, rfl⟩, ld_ag ag33 rfl rfl⟩ ⟨rfl, HS.kp⟩

set_option maxRecDepth 100000 in
theorem begun_any (m n : Nat) (old : Hsh) (ps : List Hsh) (a : Option Addr) (c : Nat) (w0 : World) (hr : Rd w0 a ps.length c 32 (hsc ps)) (f : Nat) (r : Hsh × Hsh) (hf : n ≤ f) (h1 : 1 ≤ m) (hmn : m ≤ n) (hb : n ≤ 1152921504606846976) (hg : genF (ownF f m n false) (stepF f m n) old ps = some r) (hL : Laid w0) (h2 : 4 ≤ w0.heap.size) :
    Calls Tryd.prog 138 #[.int .i64 (m : Int), .int .i64 (n : Int), .slice a ps.length c] w0 fun e w' => e = .returned (hv r.1) ∧ Kp [] w0 w' := by
  rw [gen_old old zeroH] at hg
  refine calls_st (F := []) (args := [.int .i64 (m : Int), .int .i64 (n : Int), .slice a ps.length c]) Tryd.func138 rfl (n := 18) rfl rfl ?_
  intro ac w HF HS
  refine wp_seq ?_
  refine wp_region_lit ?_
  refine sx_ef HF (ef_alloc HS ze33) rfl rfl ?_; clear HF HS ac; rintro _ w ac ⟨g6, rfl, HS⟩ HF
  refine wpList_nil ?_
  refine then_n ?_
  refine wp_seq ?_
  refine wp_region_lit ?_
  refine sx_y HF HS (yl_move rfl) rfl rfl ?_; clear HF ac; intro ac HF
  refine sx_y HF HS (yl_move rfl) rfl rfl ?_; clear HF ac; intro ac HF
  refine sx_y HF HS (bd_zero (cs := hvA zeroH) zt33 Tryd.underlying33 (by kernel_rfl) rfl) rfl rfl ?_; clear HF ac; intro ac HF
  refine sx_y HF HS (yl_move rfl) rfl rfl ?_; clear HF ac; intro ac HF
  refine sx_call HF Tryd.func150 (by kernel_rfl) (by kernel_rfl) (evs_cons rfl (evs_cons rfl (evs_cons rfl (evs_cons rfl (evs_cons rfl evs_nil))))) (inner_any f m n false zeroH ps r a c w hf h1 hmn hb (hr.below HS.kp) hg (hL.below HS.kp) (Nat.le_trans h2 HS.kp.size)) rfl rfl ?_; clear HF ac
  rintro _ w ⟨rfl, k1⟩
  refine ⟨_, rfl, fun ac HF => ?_⟩
  replace HS := HS.call k1
  clear k1
  refine sx_y HF HS (yl_move rfl) rfl rfl ?_; clear HF ac; intro ac HF
  refine sx_y HF HS (yl_extract rfl rfl) rfl rfl ?_; clear HF ac; intro ac HF
  refine sx_y HF HS (yl_extract rfl rfl) rfl rfl ?_; clear HF ac; intro ac HF
  refine sx_ef HF (ef_alloc HS ze33) rfl rfl ?_; clear HF HS ac; rintro _ w ac ⟨g7, rfl, HS⟩ HF
  refine sx_ef HF (ef_alloc HS ze33) rfl rfl ?_; clear HF HS ac; rintro _ w ac ⟨g8, rfl, HS⟩ HF
  refine sx_ef0 HF (ef_store HS sz33 rfl rfl rfl) rfl ?_; clear HS; rintro _ w HS
  refine sx_ef0 HF (ef_store HS sz33 rfl rfl rfl) rfl ?_; clear HS; rintro _ w HS
  refine wpList_nil ?_
  refine then_n ?_
  refine wp_seq ?_
  refine wp_region_lit ?_
  refine sx_y HF HS (ld_ag ag33 rfl rfl) rfl rfl ?_; clear HF ac; intro ac HF
  refine sx_ef0 HF (ef_store HS sz33 rfl rfl rfl) rfl ?_; clear HS; rintro _ w HS
  refine wpList_nil ?_
  refine then_n ?_
  refine wp_ret ?_
  exact rt1 rfl HF HS ⟨⟨_, rfl⟩, ld_ag ag33 rfl rfl⟩ ⟨rfl, HS.kp⟩

end Go.Proofs.YtalnkhgonfcabaaDoor
