/-
  collide.In and collide.On where they refuse; law10's fixed answer. (Printed by sx_coll5.py.)
-/
import Derived.Test.YtalnkhgonfcabaaDoorColl4
import Derived.Test.YtalnkhgonfcabaaDoorPrf10
namespace Go.Proofs.YtalnkhgonfcabaaDoor
open Go.RowKit

/-! ### Types -/
namespace Coll5
theorem ag85 : AgT Tryd.prog 85 2 := AgT.mk' Tryd.underlying85 rfl (by kernel_rfl)
theorem fd82x0 : FdT Tryd.prog 82 0 0 := FdT.mk' (k := 0) Tryd.underlying82 (by kernel_rfl)
theorem fd82x1 : FdT Tryd.prog 82 1 1 := FdT.mk' (k := 0) Tryd.underlying82 (by kernel_rfl)
theorem fd93x0 : FdT Tryd.prog 93 0 0 := FdT.mk' (k := 0) Tryd.underlying93 (by kernel_rfl)
theorem fd93x1 : FdT Tryd.prog 93 1 1 := FdT.mk' (k := 0) Tryd.underlying93 (by kernel_rfl)
theorem fd93x2 : FdT Tryd.prog 93 2 2 := FdT.mk' (k := 0) Tryd.underlying93 (by kernel_rfl)
theorem sc3 : ScT Tryd.prog 3 := ScT.mk' Tryd.underlying3 rfl (by kernel_rfl)
theorem sc22 : ScT Tryd.prog 22 := ScT.mk' Tryd.underlying22 rfl (by kernel_rfl)
theorem sc61 : ScT Tryd.prog 61 := ScT.mk' Tryd.underlying61 rfl (by kernel_rfl)
theorem sl22 : SlT Tryd.prog 22 33 Tryd.t33 (hv zeroH) 32 32 := ⟨Tryd.underlying22, by kernel_rfl, by kernel_rfl, rfl, rfl, hvA_size _, by decide⟩
theorem sl39 : SlT Tryd.prog 39 5 Tryd.t5 (.int .u8 0) 1 1 := ⟨Tryd.underlying39, by kernel_rfl, by kernel_rfl, rfl, rfl, rfl, by decide⟩
theorem sl61 : SlT Tryd.prog 61 39 Tryd.t39 (.slice none 0 0) 1 24 := ⟨Tryd.underlying61, by kernel_rfl, by kernel_rfl, rfl, rfl, rfl, by decide⟩
theorem sz85 : (Tryd.prog.info? 85).map (·.size) = some 2 := by kernel_rfl
theorem ze82 : ZeS Tryd.prog 82 [(1, .int .i64 0), (1, .int .i64 0), (1, .slice none 0 0), (1, .slice none 0 0)] := ⟨.agg _, ZeT.mk' (by kernel_rfl), rfl⟩
theorem ze85 : ZeS Tryd.prog 85 [(1, .slice none 0 0), (1, .slice none 0 0)] := ⟨.agg _, ZeT.mk' (by kernel_rfl), rfl⟩
theorem ze93 : ZeS Tryd.prog 93 [(1, .slice none 0 0), (1, .slice none 0 0), (1, .slice none 0 0)] := ⟨.agg _, ZeT.mk' (by kernel_rfl), rfl⟩
theorem zt33 : ZeT Tryd.prog 33 (hv zeroH) := ZeT.mk' (by kernel_rfl)
end Coll5
open Go.Proofs.YtalnkhgonfcabaaDoor.Coll5

/-- A Claim, part by part. -/
abbrev clS (s i : Int) (a : Option Addr) (n c : Nat) (b : Option Addr) (k e : Nat) : List (Nat × Value) := [(1, .int .i64 i), (1, .int .i64 s), (1, .slice a n c), (1, .slice b k e)]
/-- A Growth, part by part. -/
abbrev grS (a : Option Addr) (n c : Nat) (b : Option Addr) (k e : Nat) (p : Option Addr) (m q : Nat) : List (Nat × Value) := [(1, .slice a n c), (1, .slice b k e), (1, .slice p m q)]

set_option maxRecDepth 100000 in
theorem in_range (s i : Int) (v : Option Addr) (n k : Nat) (v2 : Option Addr) (n2 k2 : Nat) (a : Option Addr) (m c : Nat) (w0 : World) (h : s ≠ m ∨ i < 0 ∨ s ≤ i) :
    Calls Tryd.prog 58 #[.slice a m c, .agg (sgA (clS s i v n k v2 n2 k2))] w0 fun e w' => e = .returned (.tuple #[.agg (sgA (coS none 0 0 none 0 0)), .bool false, .int .i64 11]) ∧ Kp [] w0 w' := by
  refine calls_st (F := []) (args := [.slice a m c, .agg (sgA (clS s i v n k v2 n2 k2))]) Tryd.func58 rfl (n := 139) rfl rfl ?_
  intro ac w HF HS
  refine wp_seq ?_
  refine wp_region_lit ?_
  refine sx_ef HF (ef_boxs HS rfl) rfl rfl ?_; clear HF HS ac; rintro _ w ac ⟨g3, rfl, HS⟩ HF
  refine sx_ef HF (ef_alloc HS ze85) rfl rfl ?_; clear HF HS ac; rintro _ w ac ⟨g4, rfl, HS⟩ HF
  refine sx_y HF HS (yl_assign rfl) rfl rfl ?_; clear HF ac; intro ac HF
  refine sx_y HF HS (yl_assign rfl) rfl rfl ?_; clear HF ac; intro ac HF
  refine wpList_nil ?_
  refine then_n ?_
  refine wp_seq ?_
  refine wp_seq ?_
  refine wp_region_lit ?_
  refine sx_y HF HS (fa_st fd82x1 rfl) rfl rfl ?_; clear HF ac; intro ac HF
  refine sx_y HF HS (ld_sc sc3 rfl rfl rfl) rfl rfl ?_; clear HF ac; intro ac HF
  refine sx_y HF HS (yl_move rfl) rfl rfl ?_; clear HF ac; intro ac HF
  refine sx_y HF HS (yl_len_slice Tryd.underlying61 rfl) rfl rfl ?_; clear HF ac; intro ac HF
  refine sx_dec HF HS (yl_neq rfl rfl rfl) rfl rfl ?_ ?_ <;> clear HF ac <;> intro h1x4 ac HF
  · refine sx_y HF HS (yl_move rfl) rfl rfl ?_; clear HF ac; intro ac HF
    refine sx_off HF rfl rfl ?_; clear HF ac; intro ac HF
    refine sx_off HF rfl rfl ?_; clear HF ac; intro ac HF
    refine sx_off HF rfl rfl ?_; clear HF ac; intro ac HF
    refine sx_y HF HS (yl_pick (b := true) rfl rfl) rfl rfl ?_; clear HF ac; intro ac HF
    refine sx_y HF HS (yl_move rfl) rfl rfl ?_; clear HF ac; intro ac HF
    refine sx_off HF rfl rfl ?_; clear HF ac; intro ac HF
    refine sx_off HF rfl rfl ?_; clear HF ac; intro ac HF
    refine sx_off HF rfl rfl ?_; clear HF ac; intro ac HF
    refine sx_off HF rfl rfl ?_; clear HF ac; intro ac HF
    refine sx_off HF rfl rfl ?_; clear HF ac; intro ac HF
    refine sx_y HF HS (yl_pick (b := true) rfl rfl) rfl rfl ?_; clear HF ac; intro ac HF
    refine wpList_nil ?_
    refine then_n ?_
    refine cx_true HF rfl ?_
    refine wp_seq ?_
    refine wp_region_lit ?_
    refine sx_y HF HS (bd_st (parts := #[]) Tryd.underlying85 (by kernel_rfl) ze85 evs_nil (pl := [(0, 1), (1, 1)]) (by kernel_rfl) (szs := []) rfl (inferInstance : SgW []) rfl) rfl rfl ?_; clear HF ac; intro ac HF
    refine sx_ef0 HF (ef_stores HS sz85 rfl rfl rfl rfl) rfl ?_; clear HS; rintro _ w HS
    refine sx_y HF HS (yl_assign rfl) rfl rfl ?_; clear HF ac; intro ac HF
    refine sx_y HF HS (yl_assign rfl) rfl rfl ?_; clear HF ac; intro ac HF
    refine wpList_nil ?_
    refine then_n ?_
    refine wp_ret ?_
    refine then_r ?_
    exact rt3 rfl HF HS ⟨⟨_, rfl⟩, ld_all ag85 rfl rfl⟩ rfl rfl ⟨rfl, HS.kp⟩
  · refine sx_y HF HS (yl_move rfl) rfl rfl ?_; clear HF ac; intro ac HF
    refine sx_y HF HS (fa_st fd82x0 rfl) rfl rfl ?_; clear HF ac; intro ac HF
    refine sx_y HF HS (ld_sc sc3 rfl rfl rfl) rfl rfl ?_; clear HF ac; intro ac HF
    refine sx_dec HF HS (yl_lss rfl rfl rfl) rfl rfl ?_ ?_ <;> clear HF ac <;> intro h1x8 ac HF
    · refine sx_y HF HS (yl_pick (b := false) rfl rfl) rfl rfl ?_; clear HF ac; intro ac HF
      refine sx_y HF HS (yl_move rfl) rfl rfl ?_; clear HF ac; intro ac HF
      refine sx_off HF rfl rfl ?_; clear HF ac; intro ac HF
      refine sx_off HF rfl rfl ?_; clear HF ac; intro ac HF
      refine sx_off HF rfl rfl ?_; clear HF ac; intro ac HF
      refine sx_off HF rfl rfl ?_; clear HF ac; intro ac HF
      refine sx_off HF rfl rfl ?_; clear HF ac; intro ac HF
      refine sx_y HF HS (yl_pick (b := true) rfl rfl) rfl rfl ?_; clear HF ac; intro ac HF
      refine wpList_nil ?_
      refine then_n ?_
      refine cx_true HF rfl ?_
      refine wp_seq ?_
      refine wp_region_lit ?_
      refine sx_y HF HS (bd_st (parts := #[]) Tryd.underlying85 (by kernel_rfl) ze85 evs_nil (pl := [(0, 1), (1, 1)]) (by kernel_rfl) (szs := []) rfl (inferInstance : SgW []) rfl) rfl rfl ?_; clear HF ac; intro ac HF
      refine sx_ef0 HF (ef_stores HS sz85 rfl rfl rfl rfl) rfl ?_; clear HS; rintro _ w HS
      refine sx_y HF HS (yl_assign rfl) rfl rfl ?_; clear HF ac; intro ac HF
      refine sx_y HF HS (yl_assign rfl) rfl rfl ?_; clear HF ac; intro ac HF
      refine wpList_nil ?_
      refine then_n ?_
      refine wp_ret ?_
      refine then_r ?_
      exact rt3 rfl HF HS ⟨⟨_, rfl⟩, ld_all ag85 rfl rfl⟩ rfl rfl ⟨rfl, HS.kp⟩
    · refine sx_y HF HS (yl_pick (b := false) rfl rfl) rfl rfl ?_; clear HF ac; intro ac HF
      refine sx_y HF HS (yl_move rfl) rfl rfl ?_; clear HF ac; intro ac HF
      refine sx_y HF HS (fa_st fd82x0 rfl) rfl rfl ?_; clear HF ac; intro ac HF
      refine sx_y HF HS (ld_sc sc3 rfl rfl rfl) rfl rfl ?_; clear HF ac; intro ac HF
      refine sx_y HF HS (fa_st fd82x1 rfl) rfl rfl ?_; clear HF ac; intro ac HF
      refine sx_y HF HS (ld_sc sc3 rfl rfl rfl) rfl rfl ?_; clear HF ac; intro ac HF
      refine sx_dec HF HS (yl_geq rfl rfl rfl) rfl rfl ?_ ?_ <;> clear HF ac <;> intro h1x15 ac HF
      · refine sx_y HF HS (yl_pick (b := false) rfl rfl) rfl rfl ?_; clear HF ac; intro ac HF
        refine wpList_nil ?_
        refine then_n ?_
        refine cx_true HF rfl ?_
        refine wp_seq ?_
        refine wp_region_lit ?_
        refine sx_y HF HS (bd_st (parts := #[]) Tryd.underlying85 (by kernel_rfl) ze85 evs_nil (pl := [(0, 1), (1, 1)]) (by kernel_rfl) (szs := []) rfl (inferInstance : SgW []) rfl) rfl rfl ?_; clear HF ac; intro ac HF
        refine sx_ef0 HF (ef_stores HS sz85 rfl rfl rfl rfl) rfl ?_; clear HS; rintro _ w HS
        refine sx_y HF HS (yl_assign rfl) rfl rfl ?_; clear HF ac; intro ac HF
        refine sx_y HF HS (yl_assign rfl) rfl rfl ?_; clear HF ac; intro ac HF
        refine wpList_nil ?_
        refine then_n ?_
        refine wp_ret ?_
        refine then_r ?_
        exact rt3 rfl HF HS ⟨⟨_, rfl⟩, ld_all ag85 rfl rfl⟩ rfl rfl ⟨rfl, HS.kp⟩
      · exact absurd h (by omega)

set_option maxRecDepth 100000 in
theorem on_range (p : Option Addr) (m q : Nat) (a : Option Addr) (n c : Nat) (b : Option Addr) (k e : Nat) (w0 : World) (h : k < n) :
    Calls Tryd.prog 63 #[.agg (sgA (grS a n c b k e p m q))] w0 fun e w' => e = .returned (.tuple #[.agg (sgA (coS none 0 0 none 0 0)), .bool false, .int .i64 11]) ∧ Kp [] w0 w' := by
  refine calls_st (F := []) (args := [.agg (sgA (grS a n c b k e p m q))]) Tryd.func63 rfl (n := 56) rfl rfl ?_
  intro ac w HF HS
  refine wp_seq ?_
  refine wp_region_lit ?_
  refine sx_ef HF (ef_boxs HS rfl) rfl rfl ?_; clear HF HS ac; rintro _ w ac ⟨g1, rfl, HS⟩ HF
  refine sx_ef HF (ef_alloc HS ze85) rfl rfl ?_; clear HF HS ac; rintro _ w ac ⟨g2, rfl, HS⟩ HF
  refine sx_y HF HS (yl_assign rfl) rfl rfl ?_; clear HF ac; intro ac HF
  refine sx_y HF HS (yl_assign rfl) rfl rfl ?_; clear HF ac; intro ac HF
  refine wpList_nil ?_
  refine then_n ?_
  refine wp_seq ?_
  refine dx_region 8 (by kernel_rfl) HS.drew (fun _ h => h) ?_; clear HS; intro w HS
  have HH := HS
  refine dx_p (i := 0) HF rfl (by kernel_rfl) (by kernel_rfl) (by kernel_rfl) (by decide) (fun _ _ _ h => h) (fun _ => HH) (fa_st fd93x0 rfl) rfl rfl ?_; clear HF ac; intro ac HF
  refine dx_k (i := 1) HF rfl (by kernel_rfl) (by kernel_rfl) (by kernel_rfl) (by kernel_rfl) (by kernel_rfl) (fun _ _ _ h => h) HH (ld_sc sc61 rfl rfl rfl) rfl rfl ?_; clear HF ac; intro ac HF
  refine dx_p (i := 2) HF rfl (by kernel_rfl) (by kernel_rfl) (by kernel_rfl) (by decide) (fun _ _ _ h => h) (fun _ => HH) (yl_len_slice Tryd.underlying61 rfl) rfl rfl ?_; clear HF ac; intro ac HF
  refine dx_p (i := 3) HF rfl (by kernel_rfl) (by kernel_rfl) (by kernel_rfl) (by decide) (fun _ _ _ h => h) (fun _ => HH) (fa_st fd93x1 rfl) rfl rfl ?_; clear HF ac; intro ac HF
  refine dx_k (i := 4) HF rfl (by kernel_rfl) (by kernel_rfl) (by kernel_rfl) (by kernel_rfl) (by kernel_rfl) (fun _ _ _ h => h) HH (ld_sc sc61 rfl rfl rfl) rfl rfl ?_; clear HF ac; intro ac HF
  refine dx_p (i := 5) HF rfl (by kernel_rfl) (by kernel_rfl) (by kernel_rfl) (by decide) (fun _ _ _ h => h) (fun _ => HH) (yl_len_slice Tryd.underlying61 rfl) rfl rfl ?_; clear HF ac; intro ac HF
  refine dx_p (i := 6) HF rfl (by kernel_rfl) (by kernel_rfl) (by kernel_rfl) (by decide) (fun _ _ _ h => h) (fun _ => HH) (yl_assign rfl) rfl rfl ?_; clear HF ac; intro ac HF
  refine dx_p (i := 7) HF rfl (by kernel_rfl) (by kernel_rfl) (by kernel_rfl) (by decide) (fun _ _ _ h => h) (fun _ => HH) (yl_assign rfl) rfl rfl ?_; clear HF ac; intro ac HF
  refine dx_done (by kernel_rfl) ?_
  clear HH
  refine then_n ?_
  refine wp_seq ?_
  refine wp_seq ?_
  refine wp_region_lit ?_
  refine sx_y HF HS (yl_move rfl) rfl rfl ?_; clear HF ac; intro ac HF
  refine sx_y HF HS (yl_move rfl) rfl rfl ?_; clear HF ac; intro ac HF
  refine sx_y HF HS (yl_gtr rfl rfl (decide_eq_true (by omega))) rfl rfl ?_; clear HF ac; intro ac HF
  refine wpList_nil ?_
  refine then_n ?_
  refine cx_true HF rfl ?_
  refine wp_seq ?_
  refine wp_region_lit ?_
  refine sx_y HF HS (bd_st (parts := #[]) Tryd.underlying85 (by kernel_rfl) ze85 evs_nil (pl := [(0, 1), (1, 1)]) (by kernel_rfl) (szs := []) rfl (inferInstance : SgW []) rfl) rfl rfl ?_; clear HF ac; intro ac HF
  refine sx_ef0 HF (ef_stores HS sz85 rfl rfl rfl rfl) rfl ?_; clear HS; rintro _ w HS
  refine sx_y HF HS (yl_assign rfl) rfl rfl ?_; clear HF ac; intro ac HF
  refine sx_y HF HS (yl_assign rfl) rfl rfl ?_; clear HF ac; intro ac HF
  refine wpList_nil ?_
  refine then_n ?_
  refine wp_ret ?_
  refine then_r ?_
  exact rt3 rfl HF HS ⟨⟨_, rfl⟩, ld_all ag85 rfl rfl⟩ rfl rfl ⟨rfl, HS.kp⟩

set_option maxRecDepth 100000 in
theorem on_proof (l r : List Pt) (ps : List Hsh) (a b p : Option Addr) (c e q : Nat) (w0 : World) (hr : Rd w0 a l.length c 1 (pts l)) (hp : ∀ p ∈ l, Rd w0 p.a p.l.length p.c 1 (bcs p.l) ∧ p.l.length ≤ 1099511627775) (hll : l.length ≤ 100000) (hs : Rd w0 b r.length e 1 (pts r)) (hq : ∀ p ∈ r, Rd w0 p.a p.l.length p.c 1 (bcs p.l) ∧ p.l.length ≤ 1099511627775) (hlr : r.length ≤ 100000) (hps : Rd w0 p ps.length q 32 (hsc ps)) (hlr2 : l.length ≤ r.length) (hv : onV l.length r.length (rootH (leavesH l)) (rootH (leavesH r)) (bothAll l.length r.length (rootH (leavesH l)) ps) = 22) (hL : Laid w0) (h2 : 4 ≤ w0.heap.size) :
    Calls Tryd.prog 63 #[.agg (sgA (grS a l.length c b r.length e p ps.length q))] w0 fun e w' => e = .returned (.tuple #[.agg (sgA (coS none 0 0 none 0 0)), .bool false, .int .i64 22]) ∧ Kp [] w0 w' := by
  refine calls_st (F := []) (args := [.agg (sgA (grS a l.length c b r.length e p ps.length q))]) Tryd.func63 rfl (n := 56) rfl rfl ?_
  intro ac w HF HS
  refine wp_seq ?_
  refine wp_region_lit ?_
  refine sx_ef HF (ef_boxs HS rfl) rfl rfl ?_; clear HF HS ac; rintro _ w ac ⟨g1, rfl, HS⟩ HF
  refine sx_ef HF (ef_alloc HS ze85) rfl rfl ?_; clear HF HS ac; rintro _ w ac ⟨g2, rfl, HS⟩ HF
  refine sx_y HF HS (yl_assign rfl) rfl rfl ?_; clear HF ac; intro ac HF
  refine sx_y HF HS (yl_assign rfl) rfl rfl ?_; clear HF ac; intro ac HF
  refine wpList_nil ?_
  refine then_n ?_
  refine wp_seq ?_
  refine dx_region 8 (by kernel_rfl) HS.drew (fun _ h => h) ?_; clear HS; intro w HS
  have HH := HS
  refine dx_p (i := 0) HF rfl (by kernel_rfl) (by kernel_rfl) (by kernel_rfl) (by decide) (fun _ _ _ h => h) (fun _ => HH) (fa_st fd93x0 rfl) rfl rfl ?_; clear HF ac; intro ac HF
  refine dx_k (i := 1) HF rfl (by kernel_rfl) (by kernel_rfl) (by kernel_rfl) (by kernel_rfl) (by kernel_rfl) (fun _ _ _ h => h) HH (ld_sc sc61 rfl rfl rfl) rfl rfl ?_; clear HF ac; intro ac HF
  refine dx_p (i := 2) HF rfl (by kernel_rfl) (by kernel_rfl) (by kernel_rfl) (by decide) (fun _ _ _ h => h) (fun _ => HH) (yl_len_slice Tryd.underlying61 rfl) rfl rfl ?_; clear HF ac; intro ac HF
  refine dx_p (i := 3) HF rfl (by kernel_rfl) (by kernel_rfl) (by kernel_rfl) (by decide) (fun _ _ _ h => h) (fun _ => HH) (fa_st fd93x1 rfl) rfl rfl ?_; clear HF ac; intro ac HF
  refine dx_k (i := 4) HF rfl (by kernel_rfl) (by kernel_rfl) (by kernel_rfl) (by kernel_rfl) (by kernel_rfl) (fun _ _ _ h => h) HH (ld_sc sc61 rfl rfl rfl) rfl rfl ?_; clear HF ac; intro ac HF
  refine dx_p (i := 5) HF rfl (by kernel_rfl) (by kernel_rfl) (by kernel_rfl) (by decide) (fun _ _ _ h => h) (fun _ => HH) (yl_len_slice Tryd.underlying61 rfl) rfl rfl ?_; clear HF ac; intro ac HF
  refine dx_p (i := 6) HF rfl (by kernel_rfl) (by kernel_rfl) (by kernel_rfl) (by decide) (fun _ _ _ h => h) (fun _ => HH) (yl_assign rfl) rfl rfl ?_; clear HF ac; intro ac HF
  refine dx_p (i := 7) HF rfl (by kernel_rfl) (by kernel_rfl) (by kernel_rfl) (by decide) (fun _ _ _ h => h) (fun _ => HH) (yl_assign rfl) rfl rfl ?_; clear HF ac; intro ac HF
  refine dx_done (by kernel_rfl) ?_
  clear HH
  refine then_n ?_
  refine wp_seq ?_
  refine wp_seq ?_
  refine wp_region_lit ?_
  refine sx_y HF HS (yl_move rfl) rfl rfl ?_; clear HF ac; intro ac HF
  refine sx_y HF HS (yl_move rfl) rfl rfl ?_; clear HF ac; intro ac HF
  refine sx_y HF HS (yl_gtr rfl rfl (decide_eq_false (by omega))) rfl rfl ?_; clear HF ac; intro ac HF
  refine wpList_nil ?_
  refine then_n ?_
  refine cx_false HF rfl ?_
  refine wp_skip ?_
  refine then_n ?_
  refine wp_seq ?_
  refine dx_region 8 (by kernel_rfl) HS.drew (fun _ h => h) ?_; clear HS; intro w HS
  have HH := HS
  refine dx_p (i := 0) HF rfl (by kernel_rfl) (by kernel_rfl) (by kernel_rfl) (by decide) (fun _ _ _ h => h) (fun _ => HH) (fa_st fd93x0 rfl) rfl rfl ?_; clear HF ac; intro ac HF
  refine dx_k (i := 1) HF rfl (by kernel_rfl) (by kernel_rfl) (by kernel_rfl) (by kernel_rfl) (by kernel_rfl) (fun _ _ _ h => h) HH (ld_sc sc61 rfl rfl rfl) rfl rfl ?_; clear HF ac; intro ac HF
  refine dx_p (i := 3) HF rfl (by kernel_rfl) (by kernel_rfl) (by kernel_rfl) (by decide) (fun _ _ _ h => h) (fun _ => HH) (fa_st fd93x1 rfl) rfl rfl ?_; clear HF ac; intro ac HF
  refine dx_k (i := 4) HF rfl (by kernel_rfl) (by kernel_rfl) (by kernel_rfl) (by kernel_rfl) (by kernel_rfl) (fun _ _ _ h => h) HH (ld_sc sc61 rfl rfl rfl) rfl rfl ?_; clear HF ac; intro ac HF
  refine dx_one (i := 2) (by kernel_rfl) ?_
  refine op_call (i := 2) HF rfl Tryd.func99 (by kernel_rfl) (by kernel_rfl) (evs_cons rfl evs_nil) (leaves_any l a c w (hr.below HS.kp) (fun p hm => (hp p hm).1.below HS.kp) (by omega) (hL.below HS.kp) (Nat.le_trans h2 HS.kp.size)) rfl rfl ?_; clear HF ac
  rintro _ w ⟨_, rfl, a7, c7, rfl, o7, f7, k7⟩
  refine ⟨_, rfl, fun ac HF => ?_⟩
  replace HH := HH.call k7
  replace HS := HS.addRow k7 o7 f7
  clear o7 f7 k7
  refine ⟨fun _ => HH, ?_⟩
  refine dx_one (i := 5) (by kernel_rfl) ?_
  refine op_call (i := 5) HF rfl Tryd.func99 (by kernel_rfl) (by kernel_rfl) (evs_cons rfl evs_nil) (leaves_any r b e w (hs.below HS.kp) (fun p hm => (hq p hm).1.below HS.kp) (by omega) (hL.below HS.kp) (Nat.le_trans h2 HS.kp.size)) rfl rfl ?_; clear HF ac
  rintro _ w ⟨_, rfl, a8, c8, rfl, o7, f7, k7⟩
  refine ⟨_, rfl, fun ac HF => ?_⟩
  replace HH := HH.call k7
  replace HS := HS.addRow k7 o7 f7
  clear o7 f7 k7
  refine ⟨fun _ => HH, ?_⟩
  refine dx_p (i := 6) HF rfl (by kernel_rfl) (by kernel_rfl) (by kernel_rfl) (by decide) (fun _ _ _ h => h) (fun _ => HH) (yl_assign rfl) rfl rfl ?_; clear HF ac; intro ac HF
  refine dx_p (i := 7) HF rfl (by kernel_rfl) (by kernel_rfl) (by kernel_rfl) (by decide) (fun _ _ _ h => h) (fun _ => HH) (yl_assign rfl) rfl rfl ?_; clear HF ac; intro ac HF
  refine dx_done (by kernel_rfl) ?_
  clear HH
  refine then_n ?_
  refine wp_seq ?_
  refine wp_seq ?_
  refine dx_region 10 (by kernel_rfl) HS.drew (fun _ h => h) ?_; clear HS; intro w HS
  have HH := HS
  refine dx_p (i := 0) HF rfl (by kernel_rfl) (by kernel_rfl) (by kernel_rfl) (by decide) (fun _ _ _ h => h) (fun _ => HH) (yl_move rfl) rfl rfl ?_; clear HF ac; intro ac HF
  refine dx_p (i := 1) HF rfl (by kernel_rfl) (by kernel_rfl) (by kernel_rfl) (by decide) (fun _ _ _ h => h) (fun _ => HH) (yl_move rfl) rfl rfl ?_; clear HF ac; intro ac HF
  refine dx_p (i := 2) HF rfl (by kernel_rfl) (by kernel_rfl) (by kernel_rfl) (by decide) (fun _ _ _ h => h) (fun _ => HH) (yl_move rfl) rfl rfl ?_; clear HF ac; intro ac HF
  refine dx_p (i := 4) HF rfl (by kernel_rfl) (by kernel_rfl) (by kernel_rfl) (by decide) (fun _ _ _ h => h) (fun _ => HH) (yl_move rfl) rfl rfl ?_; clear HF ac; intro ac HF
  refine dx_p (i := 6) HF rfl (by kernel_rfl) (by kernel_rfl) (by kernel_rfl) (by decide) (fun _ _ _ h => h) (fun _ => HH) (fa_st fd93x2 rfl) rfl rfl ?_; clear HF ac; intro ac HF
  refine dx_k (i := 7) HF rfl (by kernel_rfl) (by kernel_rfl) (by kernel_rfl) (by kernel_rfl) (by kernel_rfl) (fun _ _ _ h => h) HH (ld_sc sc22 rfl rfl rfl) rfl rfl ?_; clear HF ac; intro ac HF
  refine dx_one (i := 3) (by kernel_rfl) ?_
  refine op_call (i := 3) HF rfl Tryd.func60 (by kernel_rfl) (by kernel_rfl) (evs_cons rfl evs_nil) (root_any (leavesH l) a7 c7 w HS.row1 (hL.below HS.kp) (Nat.le_trans h2 HS.kp.size)) rfl rfl ?_; clear HF ac
  rintro _ w ⟨rfl, k1⟩
  refine ⟨_, rfl, fun ac HF => ?_⟩
  replace HH := HH.call k1
  replace HS := HS.call k1
  clear k1
  refine ⟨fun _ => HH, ?_⟩
  refine dx_one (i := 5) (by kernel_rfl) ?_
  refine op_call (i := 5) HF rfl Tryd.func60 (by kernel_rfl) (by kernel_rfl) (evs_cons rfl evs_nil) (root_any (leavesH r) a8 c8 w HS.row0 (hL.below HS.kp) (Nat.le_trans h2 HS.kp.size)) rfl rfl ?_; clear HF ac
  rintro _ w ⟨rfl, k1⟩
  refine ⟨_, rfl, fun ac HF => ?_⟩
  replace HH := HH.call k1
  replace HS := HS.call k1
  clear k1
  refine ⟨fun _ => HH, ?_⟩
  refine dx_one (i := 8) (by kernel_rfl) ?_
  refine op_call (i := 8) HF rfl Tryd.func64 (by kernel_rfl) (by kernel_rfl) (evs_cons rfl (evs_cons rfl (evs_cons rfl (evs_cons rfl (evs_cons rfl evs_nil))))) (on_good l.length r.length (rootH (leavesH l)) (rootH (leavesH r)) ps p q w (hps.below HS.kp) hlr2 (by omega) (hL.below HS.kp) (Nat.le_trans h2 HS.kp.size)) rfl rfl ?_; clear HF ac
  rintro _ w ⟨rfl, k1⟩
  rw [hv]
  refine ⟨_, rfl, fun ac HF => ?_⟩
  replace HH := HH.call k1
  replace HS := HS.call k1
  clear k1
  refine ⟨fun _ => HH, ?_⟩
  refine dx_p (i := 9) HF rfl (by kernel_rfl) (by kernel_rfl) (by kernel_rfl) (by decide) (fun _ _ _ h => h) (fun _ => HH) (yl_neq rfl rfl (decide_eq_true (by exact (by decide)))) rfl rfl ?_; clear HF ac; intro ac HF
  refine dx_done (by kernel_rfl) ?_
  clear HH
  refine then_n ?_
  refine cx_true HF rfl ?_
  refine wp_seq ?_
  refine wp_region_lit ?_
  refine sx_y HF HS (bd_st (parts := #[]) Tryd.underlying85 (by kernel_rfl) ze85 evs_nil (pl := [(0, 1), (1, 1)]) (by kernel_rfl) (szs := []) rfl (inferInstance : SgW []) rfl) rfl rfl ?_; clear HF ac; intro ac HF
  refine sx_ef0 HF (ef_stores HS sz85 rfl rfl rfl rfl) rfl ?_; clear HS; rintro _ w HS
  refine sx_y HF HS (yl_assign rfl) rfl rfl ?_; clear HF ac; intro ac HF
  refine sx_y HF HS (yl_assign rfl) rfl rfl ?_; clear HF ac; intro ac HF
  refine wpList_nil ?_
  refine then_n ?_
  refine wp_ret ?_
  refine then_r ?_
  exact rt3 rfl HF HS ⟨⟨_, rfl⟩, ld_all ag85 rfl rfl⟩ rfl rfl ⟨rfl, HS.kp⟩

set_option maxRecDepth 100000 in
theorem awake10_any (w0 : World) (hL : Laid w0) (h2 : 4 ≤ w0.heap.size) : Calls Tryd.prog 57 #[] w0 fun e w' => e = .returned (.bool true) ∧ Kp [] w0 w' := by
  have hv : ∀ x y z, onV 0 1 x y (bothAll 0 1 z [zeroH]) = 22 := fun x y z => by rw [show bothAll 0 1 z [zeroH] = none by unfold bothAll; rw [if_pos (.inl rfl), if_neg (by decide)]]; rfl
  refine calls_st (F := []) (args := []) Tryd.func57 rfl (n := 29) rfl rfl ?_
  intro ac w HF HS
  refine wp_seq ?_
  refine wp_region_lit ?_
  refine sx_y HF HS (yl_assign rfl) rfl rfl ?_; clear HF ac; intro ac HF
  refine wpList_nil ?_
  refine then_n ?_
  refine wp_seq ?_
  refine wp_region_lit ?_
  refine sx_y HF HS (bd_st (parts := #[]) Tryd.underlying82 (by kernel_rfl) ze82 evs_nil (pl := [(0, 1), (1, 1), (2, 1), (3, 1)]) (by kernel_rfl) (szs := []) rfl (inferInstance : SgW []) rfl) rfl rfl ?_; clear HF ac; intro ac HF
  refine sx_call HF Tryd.func58 (by kernel_rfl) (by kernel_rfl) (evs_cons rfl (evs_cons rfl evs_nil)) (in_range 0 0 none 0 0 none 0 0 none 0 0 w (.inr (.inr (Int.le_refl 0)))) rfl rfl ?_; clear HF ac
  rintro _ w ⟨rfl, k1⟩
  refine ⟨_, rfl, fun ac HF => ?_⟩
  replace HS := HS.call k1
  clear k1
  refine sx_y HF HS (yl_move rfl) rfl rfl ?_; clear HF ac; intro ac HF
  refine sx_y HF HS (yl_extract rfl rfl) rfl rfl ?_; clear HF ac; intro ac HF
  refine sx_y HF HS (yl_extract rfl rfl) rfl rfl ?_; clear HF ac; intro ac HF
  refine sx_y HF HS (yl_extract rfl rfl) rfl rfl ?_; clear HF ac; intro ac HF
  refine sx_ef HF (ef_alloc HS ze85) rfl rfl ?_; clear HF HS ac; rintro _ w ac ⟨g1, rfl, HS⟩ HF
  refine sx_ef0 HF (ef_stores HS sz85 rfl rfl rfl rfl) rfl ?_; clear HS; rintro _ w HS
  refine sx_y HF HS (yl_assign rfl) rfl rfl ?_; clear HF ac; intro ac HF
  refine sx_y HF HS (yl_assign rfl) rfl rfl ?_; clear HF ac; intro ac HF
  refine wpList_nil ?_
  refine then_n ?_
  refine wp_seq ?_
  refine wp_region_lit ?_
  refine sx_ef HF (ef_lit (n := 1) HS sl39 (parts := #[(0, .const (.int .u8 1))]) (evs_cons rfl evs_nil) rfl rfl (s := [(1, _)]) rfl (by simp)) rfl rfl ?_; clear HF HS ac; rintro _ w ac ⟨g14, rfl, HS⟩ HF
  refine sx_ef HF (ef_lit (n := 1) HS sl61 (parts := #[(0, .tmp 14)]) (evs_cons rfl evs_nil) rfl rfl (s := [(1, _)]) rfl (by simp)) rfl rfl ?_; clear HF HS ac; rintro _ w ac ⟨g15, rfl, HS⟩ HF
  refine sx_y HF HS (bd_zero (cs := hvA zeroH) zt33 Tryd.underlying33 (by kernel_rfl) rfl) rfl rfl ?_; clear HF ac; intro ac HF
  refine sx_ef HF (ef_lit (n := 1) HS sl22 (parts := #[(0, .tmp 16)]) (evs_cons rfl evs_nil) rfl rfl (s := [(32, _)]) rfl (by simp)) rfl rfl ?_; clear HF HS ac; rintro _ w ac ⟨g17, rfl, HS⟩ HF
  refine sx_y HF HS (bd_st (parts := #[(1, .tmp 15), (2, .tmp 17)]) Tryd.underlying93 (by kernel_rfl) ze93 (evs_cons rfl (evs_cons rfl evs_nil)) (pl := [(0, 1), (1, 1), (2, 1)]) (by kernel_rfl) (szs := [1, 1]) rfl (inferInstance : SgW [(1, _), (1, _)]) rfl) rfl rfl ?_; clear HF ac; intro ac HF
  refine sx_call HF Tryd.func63 (by kernel_rfl) (by kernel_rfl) (evs_cons rfl evs_nil) (on_proof [] [⟨some ⟨g14, 0, none⟩, 1, [1]⟩] [zeroH] none (some ⟨g15, 0, none⟩) (some ⟨g17, 0, none⟩) 0 1 1 w (nil_rd w 1) (fun p hm => (by cases hm)) (by decide) (by have := HS.rdLit (g := g15) (k := 1) (size := 1) rfl (by decide); simpa [sgL, Value.cells, pts, ptV, bcs, bcell] using this) (fun p hm => (by obtain rfl := List.mem_singleton.1 hm; exact ⟨(by have := HS.rdLit (g := g14) (k := 1) (size := 1) rfl (by decide); simpa [sgL, Value.cells, pts, ptV, bcs, bcell] using this), by simp⟩)) (by simp) (by have := HS.rdLit (g := g17) (k := 1) (size := 32) rfl (by decide); simpa [sgL, Value.cells, hsc, hvA] using this) (by simp) (hv _ _ _) (hL.below HS.kp) (Nat.le_trans h2 HS.kp.size)) rfl rfl ?_; clear HF ac
  rintro _ w ⟨rfl, k1⟩
  refine ⟨_, rfl, fun ac HF => ?_⟩
  replace HS := HS.call k1
  clear k1
  refine sx_y HF HS (yl_move rfl) rfl rfl ?_; clear HF ac; intro ac HF
  refine sx_y HF HS (yl_extract rfl rfl) rfl rfl ?_; clear HF ac; intro ac HF
  refine sx_y HF HS (yl_extract rfl rfl) rfl rfl ?_; clear HF ac; intro ac HF
  refine sx_y HF HS (yl_extract rfl rfl) rfl rfl ?_; clear HF ac; intro ac HF
  refine sx_ef HF (ef_alloc HS ze85) rfl rfl ?_; clear HF HS ac; rintro _ w ac ⟨g4, rfl, HS⟩ HF
  refine sx_ef0 HF (ef_stores HS sz85 rfl rfl rfl rfl) rfl ?_; clear HS; rintro _ w HS
  refine sx_y HF HS (yl_assign rfl) rfl rfl ?_; clear HF ac; intro ac HF
  refine sx_y HF HS (yl_assign rfl) rfl rfl ?_; clear HF ac; intro ac HF
  refine wpList_nil ?_
  refine then_n ?_
  refine wp_seq ?_
  refine wp_region_lit ?_
  refine sx_y HF HS (yl_move rfl) rfl rfl ?_; clear HF ac; intro ac HF
  refine sx_y HF HS (yl_eql rfl rfl (decide_eq_true (by omega))) rfl rfl ?_; clear HF ac; intro ac HF
  refine sx_y HF HS (yl_move rfl) rfl rfl ?_; clear HF ac; intro ac HF
  refine sx_y HF HS (yl_move rfl) rfl rfl ?_; clear HF ac; intro ac HF
  refine sx_y HF HS (yl_eql rfl rfl (decide_eq_true (by omega))) rfl rfl ?_; clear HF ac; intro ac HF
  refine sx_y HF HS (yl_pick (b := true) rfl rfl) rfl rfl ?_; clear HF ac; intro ac HF
  refine sx_y HF HS (yl_assign rfl) rfl rfl ?_; clear HF ac; intro ac HF
  refine wpList_nil ?_
  refine then_n ?_
  refine wp_ret ?_
  exact rt1 rfl HF HS rfl ⟨rfl, HS.kp⟩

end Go.Proofs.YtalnkhgonfcabaaDoor
