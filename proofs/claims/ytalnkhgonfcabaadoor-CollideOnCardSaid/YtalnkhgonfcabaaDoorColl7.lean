/-
  collide.In: another leaf with a path to the same root: down to where they meet. (Printed by sx_coll7.py.)
-/
import Derived.Test.YtalnkhgonfcabaaDoorColl6
import Derived.Test.YtalnkhgonfcabaaDoorPrf5
namespace Go.Proofs.YtalnkhgonfcabaaDoor
open Go.RowKit

/-! ### Types -/
namespace Coll7
theorem ag33 : AgT Tryd.prog 33 32 := AgT.mk' Tryd.underlying33 rfl (by kernel_rfl)
theorem ag85 : AgT Tryd.prog 85 2 := AgT.mk' Tryd.underlying85 rfl (by kernel_rfl)
theorem ag142 : AgT Tryd.prog 142 64 := AgT.mk' Tryd.underlying142 rfl (by kernel_rfl)
theorem fd82x0 : FdT Tryd.prog 82 0 0 := FdT.mk' (k := 0) Tryd.underlying82 (by kernel_rfl)
theorem fd82x1 : FdT Tryd.prog 82 1 1 := FdT.mk' (k := 0) Tryd.underlying82 (by kernel_rfl)
theorem fd82x2 : FdT Tryd.prog 82 2 2 := FdT.mk' (k := 0) Tryd.underlying82 (by kernel_rfl)
theorem fd82x3 : FdT Tryd.prog 82 3 3 := FdT.mk' (k := 0) Tryd.underlying82 (by kernel_rfl)
theorem sc3 : ScT Tryd.prog 3 := ScT.mk' Tryd.underlying3 rfl (by kernel_rfl)
theorem sc22 : ScT Tryd.prog 22 := ScT.mk' Tryd.underlying22 rfl (by kernel_rfl)
theorem sc39 : ScT Tryd.prog 39 := ScT.mk' Tryd.underlying39 rfl (by kernel_rfl)
theorem sz33 : (Tryd.prog.info? 33).map (·.size) = some 32 := by kernel_rfl
theorem sz39 : (Tryd.prog.info? 39).map (·.size) = some 1 := by kernel_rfl
theorem sz85 : (Tryd.prog.info? 85).map (·.size) = some 2 := by kernel_rfl
theorem sz142 : (Tryd.prog.info? 142).map (·.size) = some 64 := by kernel_rfl
theorem ze33 : ZeS Tryd.prog 33 [(32, hv zeroH)] := ⟨hv zeroH, ZeT.mk' (by kernel_rfl), (sgA_h zeroH).symm⟩
theorem ze85 : ZeS Tryd.prog 85 [(1, .slice none 0 0), (1, .slice none 0 0)] := ⟨.agg _, ZeT.mk' (by kernel_rfl), rfl⟩
theorem ze142 : ZeS Tryd.prog 142 [(32, hv zeroH), (32, hv zeroH)] := ⟨.agg _, ZeT.mk' (by kernel_rfl), rfl⟩
end Coll7
open Go.Proofs.YtalnkhgonfcabaaDoor.Coll7

theorem side_top (i n : Nat) (h2 : 2 ≤ n) (hi : i < n) (hb : n ≤ 9223372036854775808) : sideL i (n - 1) = if i < sp n then sideL i (sp n - 1) ++ [false] else sideL (i - sp n) (n - sp n - 1) ++ [true] := by
  obtain ⟨_, _, s1, s2, s3⟩ := sp_spec n h2 hb
  obtain ⟨f, rfl⟩ : ∃ f, n = f + 1 := ⟨n - 1, by omega⟩
  rw [← sideF_is (f + 1) i (f + 1) (Nat.le_refl _) hi hb, sideF, if_neg (by omega)]
  by_cases hk : i < sp (f + 1)
  · rw [if_pos hk, if_pos hk, sideF_is f i (sp (f + 1)) (by omega) hk (by omega)]
  · rw [if_neg hk, if_neg hk, sideF_is f (i - sp (f + 1)) (f + 1 - sp (f + 1)) (by omega) (by omega) (by omega)]
theorem lead_top {i n : Nat} {h r : Hsh} {p : List Hsh} (h2 : 2 ≤ n) (hi : i < n) (hb : n ≤ 9223372036854775808) (hp : leadF i (n - 1) h p = some r) :
    ∃ q s x, p = q ++ [s] ∧ (i < sp n → leadF i (sp n - 1) h q = some x ∧ r = nodeH x s) ∧ (¬ i < sp n → leadF (i - sp n) (n - sp n - 1) h q = some x ∧ r = nodeH s x) := by
  obtain ⟨_, _, s1, s2, s3⟩ := sp_spec n h2 hb
  rw [leadF_is _ _ _ _ (by omega)] at hp
  have ht := side_top i n h2 hi hb
  have hl : p.length = (sideL i (n - 1)).length := Classical.byContradiction fun hh => by rw [if_neg hh] at hp; cases hp
  rw [if_pos hl] at hp
  obtain rfl := Option.some.inj hp
  have hne : p ≠ [] := by
    rintro rfl
    rw [ht] at hl
    split at hl <;> simp at hl
  obtain ⟨q, s, rfl⟩ : ∃ q s, p = q ++ [s] := ⟨p.dropLast, p.getLast hne, (List.dropLast_concat_getLast hne).symm⟩
  by_cases hk : i < sp n
  · rw [if_pos hk] at ht
    rw [ht] at hl ⊢
    have hq : q.length = (sideL i (sp n - 1)).length := by simpa using hl
    refine ⟨q, s, foldS h q (sideL i (sp n - 1)), rfl, fun _ => ⟨by rw [leadF_is _ _ _ _ (by omega), if_pos hq], ?_⟩, fun hh => absurd hk hh⟩
    rw [foldS_snoc _ _ _ _ _ hq]; rfl
  · rw [if_neg hk] at ht
    rw [ht] at hl ⊢
    have hq : q.length = (sideL (i - sp n) (n - sp n - 1)).length := by simpa using hl
    refine ⟨q, s, foldS h q (sideL (i - sp n) (n - sp n - 1)), rfl, fun hh => absurd hh hk, fun _ => ⟨by rw [leadF_is _ _ _ _ (by omega), if_pos hq], ?_⟩⟩
    rw [foldS_snoc _ _ _ _ _ hq]; rfl
theorem lead_one {i : Nat} {h r : Hsh} {p : List Hsh} (hp : leadF i 0 h p = some r) : p = [] ∧ r = h := by
  cases p with
  | nil => rw [leadF, if_pos rfl] at hp; exact ⟨rfl, (Option.some.inj hp).symm⟩
  | cons q p => rw [leadF, if_pos rfl] at hp; cases hp
theorem leadV_hv (r : Hsh) : leadV (some r) = .tuple #[hv r, .int .i64 0] := by rw [leadV, hcsA]
/-- What In tells of a collision: a right one. -/
def InP (w : World) (e : Ending) (w' : World) : Prop := ∃ (xs ys : List UInt8) (a1 : Option Addr) (c1 : Nat) (b1 : Option Addr) (e1 : Nat), e = .returned (.tuple #[.agg (sgA (coS a1 xs.length c1 b1 ys.length e1)), .bool true, .int .i64 0]) ∧ St [] w [] [⟨5, 1, b1, ys.length, e1, bcs ys⟩, ⟨5, 1, a1, xs.length, c1, bcs xs⟩] w' ∧ rightB xs ys = true

set_option maxRecDepth 100000 in
set_option maxHeartbeats 1000000 in
theorem in_any (l : List Pt) (i : Nat) (x : Pt) (ys : List UInt8) (ps : List Hsh) (a v v2 : Option Addr) (c k k2 : Nat) (w0 : World) (hr : Rd w0 a l.length c 1 (pts l)) (hp : ∀ p ∈ l, Rd w0 p.a p.l.length p.c 1 (bcs p.l) ∧ p.l.length ≤ 1099511627775) (hll : l.length ≤ 100000) (hx0 : l[i]? = some x) (hy : Rd w0 v ys.length k 1 (bcs ys)) (hyl0 : ys.length ≤ 1099511627775) (hps : Rd w0 v2 ps.length k2 32 (hsc ps)) (hlead00 : leadF i (l.length - 1) (leafH ys) ps = some (rootH (leavesH l))) (hne : ¬ ys = x.l) (hL : Laid w0) (h2 : 4 ≤ w0.heap.size) :
    Calls Tryd.prog 58 #[.slice a l.length c, .agg (sgA (clS l.length i v ys.length k v2 ps.length k2))] w0 (InP w0) := by
  have hil : i < l.length := (List.getElem?_eq_some_iff.1 hx0).1
  have hbx := pts_get hx0
  have hpx := (hp x (List.mem_of_getElem? hx0)).1
  have hpxl := (hp x (List.mem_of_getElem? hx0)).2
  have hlh := leavesH_length l
  have hlx : (leavesH l)[i]? = some (leafH x.l) := by rw [leavesH, List.getElem?_map, hx0]; rfl
  have hlead0 : leadF i ((leavesH l).length - 1) (leafH ys) ps = some (rootH (leavesH l)) := by rw [hlh]; exact hlead00
  have hvv : inV (rootH (leavesH l)) (leadF i (l.length - 1) (leafH ys) ps) = 0 := by rw [hlead00]; exact if_pos rfl
  refine calls_st (F := []) (args := [.slice a l.length c, .agg (sgA (clS l.length i v ys.length k v2 ps.length k2))]) Tryd.func58 rfl (n := 139) rfl rfl ?_
  intro ac w HF HS
  refine wp_seq ?_
  refine wp_region_lit ?_
  refine sx_ef HF (ef_boxs HS rfl) rfl rfl ?_; clear HF HS ac; rintro _ w ac ⟨g3, rfl, HS⟩ HF
  refine sx_ef HF (ef_alloc HS ze85) rfl rfl ?_; clear HF HS ac; rintro _ w ac ⟨g4, rfl, HS⟩ HF
  refine sx_y HF HS (yl_assign rfl) rfl rfl ?_; clear HF ac; intro ac HF
  refine sx_y HF HS (yl_assign rfl) rfl rfl ?_; clear HF ac; intro ac HF
  refine wpList_nil ?_
  refine then_n ?_
  refine wp_seq ?_
  refine wp_seq ?_
  refine wp_region_lit ?_
  refine sx_y HF HS (fa_st fd82x1 rfl) rfl rfl ?_; clear HF ac; intro ac HF
  refine sx_y HF HS (ld_sc sc3 rfl rfl rfl) rfl rfl ?_; clear HF ac; intro ac HF
  refine sx_y HF HS (yl_move rfl) rfl rfl ?_; clear HF ac; intro ac HF
  refine sx_y HF HS (yl_len_slice Tryd.underlying61 rfl) rfl rfl ?_; clear HF ac; intro ac HF
  refine sx_y HF HS (yl_neq rfl rfl (decide_eq_false (by omega))) rfl rfl ?_; clear HF ac; intro ac HF
  refine sx_y HF HS (yl_move rfl) rfl rfl ?_; clear HF ac; intro ac HF
  refine sx_y HF HS (fa_st fd82x0 rfl) rfl rfl ?_; clear HF ac; intro ac HF
  refine sx_y HF HS (ld_sc sc3 rfl rfl rfl) rfl rfl ?_; clear HF ac; intro ac HF
  refine sx_y HF HS (yl_lss rfl rfl (decide_eq_false (by omega))) rfl rfl ?_; clear HF ac; intro ac HF
  refine sx_y HF HS (yl_pick (b := false) rfl rfl) rfl rfl ?_; clear HF ac; intro ac HF
  refine sx_y HF HS (yl_move rfl) rfl rfl ?_; clear HF ac; intro ac HF
  refine sx_y HF HS (fa_st fd82x0 rfl) rfl rfl ?_; clear HF ac; intro ac HF
  refine sx_y HF HS (ld_sc sc3 rfl rfl rfl) rfl rfl ?_; clear HF ac; intro ac HF
  refine sx_y HF HS (fa_st fd82x1 rfl) rfl rfl ?_; clear HF ac; intro ac HF
  refine sx_y HF HS (ld_sc sc3 rfl rfl rfl) rfl rfl ?_; clear HF ac; intro ac HF
  refine sx_y HF HS (yl_geq rfl rfl (decide_eq_false (by omega))) rfl rfl ?_; clear HF ac; intro ac HF
  refine sx_y HF HS (yl_pick (b := false) rfl rfl) rfl rfl ?_; clear HF ac; intro ac HF
  refine wpList_nil ?_
  refine then_n ?_
  refine cx_false HF rfl ?_
  refine wp_skip ?_
  refine then_n ?_
  refine wp_seq ?_
  refine wp_region_lit ?_
  refine sx_y HF HS (yl_move rfl) rfl rfl ?_; clear HF ac; intro ac HF
  refine sx_call HF Tryd.func99 (by kernel_rfl) (by kernel_rfl) (evs_cons rfl evs_nil) (leaves_any l a c w (hr.below HS.kp) (fun p hm => (hp p hm).1.below HS.kp) (by omega) (hL.below HS.kp) (Nat.le_trans h2 HS.kp.size)) rfl rfl ?_; clear HF ac
  rintro _ w ⟨_, rfl, a7, c7, rfl, o7, f7, k7⟩
  refine ⟨_, rfl, fun ac HF => ?_⟩
  replace HS := HS.addRow k7 o7 f7
  clear o7 f7 k7
  refine sx_y HF HS (yl_assign rfl) rfl rfl ?_; clear HF ac; intro ac HF
  refine wpList_nil ?_
  refine then_n ?_
  refine wp_seq ?_
  refine wp_seq ?_
  refine dx_region 13 (by kernel_rfl) HS.drew (fun _ h => h) ?_; clear HS; intro w HS
  have HH := HS
  refine dx_p (i := 0) HF rfl (by kernel_rfl) (by kernel_rfl) (by kernel_rfl) (by decide) (fun _ _ _ h => h) (fun _ => HH) (fa_st fd82x2 rfl) rfl rfl ?_; clear HF ac; intro ac HF
  refine dx_k (i := 1) HF rfl (by kernel_rfl) (by kernel_rfl) (by kernel_rfl) (by kernel_rfl) (by kernel_rfl) (fun _ _ _ h => h) HH (ld_sc sc39 rfl rfl rfl) rfl rfl ?_; clear HF ac; intro ac HF
  refine dx_p (i := 3) HF rfl (by kernel_rfl) (by kernel_rfl) (by kernel_rfl) (by decide) (fun _ _ _ h => h) (fun _ => HH) (fa_st fd82x0 rfl) rfl rfl ?_; clear HF ac; intro ac HF
  refine dx_k (i := 4) HF rfl (by kernel_rfl) (by kernel_rfl) (by kernel_rfl) (by kernel_rfl) (by kernel_rfl) (fun _ _ _ h => h) HH (ld_sc sc3 rfl rfl rfl) rfl rfl ?_; clear HF ac; intro ac HF
  refine dx_p (i := 5) HF rfl (by kernel_rfl) (by kernel_rfl) (by kernel_rfl) (by decide) (fun _ _ _ h => h) (fun _ => HH) (fa_st fd82x1 rfl) rfl rfl ?_; clear HF ac; intro ac HF
  refine dx_k (i := 6) HF rfl (by kernel_rfl) (by kernel_rfl) (by kernel_rfl) (by kernel_rfl) (by kernel_rfl) (fun _ _ _ h => h) HH (ld_sc sc3 rfl rfl rfl) rfl rfl ?_; clear HF ac; intro ac HF
  refine dx_p (i := 7) HF rfl (by kernel_rfl) (by kernel_rfl) (by kernel_rfl) (by decide) (fun _ _ _ h => h) (fun _ => HH) (fa_st fd82x3 rfl) rfl rfl ?_; clear HF ac; intro ac HF
  refine dx_k (i := 8) HF rfl (by kernel_rfl) (by kernel_rfl) (by kernel_rfl) (by kernel_rfl) (by kernel_rfl) (fun _ _ _ h => h) HH (ld_sc sc22 rfl rfl rfl) rfl rfl ?_; clear HF ac; intro ac HF
  refine dx_p (i := 9) HF rfl (by kernel_rfl) (by kernel_rfl) (by kernel_rfl) (by decide) (fun _ _ _ h => h) (fun _ => HH) (yl_move rfl) rfl rfl ?_; clear HF ac; intro ac HF
  refine dx_one (i := 2) (by kernel_rfl) ?_
  refine op_call (i := 2) HF rfl Tryd.func35 (by kernel_rfl) (by kernel_rfl) (evs_cons rfl evs_nil) (leaf_any v k ys w (hy.below HS.kp) (hL.below HS.kp) (Nat.le_trans h2 HS.kp.size)) rfl rfl ?_; clear HF ac
  rintro _ w ⟨rfl, k1⟩
  refine ⟨_, rfl, fun ac HF => ?_⟩
  replace HH := HH.call k1
  replace HS := HS.call k1
  clear k1
  refine ⟨fun _ => HH, ?_⟩
  refine dx_one (i := 10) (by kernel_rfl) ?_
  refine op_call (i := 10) HF rfl Tryd.func60 (by kernel_rfl) (by kernel_rfl) (evs_cons rfl evs_nil) (root_any (leavesH l) a7 c7 w HS.row0 (hL.below HS.kp) (Nat.le_trans h2 HS.kp.size)) rfl rfl ?_; clear HF ac
  rintro _ w ⟨rfl, k1⟩
  refine ⟨_, rfl, fun ac HF => ?_⟩
  replace HH := HH.call k1
  replace HS := HS.call k1
  clear k1
  refine ⟨fun _ => HH, ?_⟩
  refine dx_one (i := 11) (by kernel_rfl) ?_
  refine op_call (i := 11) HF rfl Tryd.func59 (by kernel_rfl) (by kernel_rfl) (evs_cons rfl (evs_cons rfl (evs_cons rfl (evs_cons rfl (evs_cons rfl evs_nil))))) (in_good (leafH ys) (rootH (leavesH l)) i l.length ps v2 k2 w (hps.below HS.kp) hil (by omega) (hL.below HS.kp) (Nat.le_trans h2 HS.kp.size)) rfl rfl ?_; clear HF ac
  rintro _ w ⟨rfl, k1⟩
  rw [hvv]
  refine ⟨_, rfl, fun ac HF => ?_⟩
  replace HH := HH.call k1
  replace HS := HS.call k1
  clear k1
  refine ⟨fun _ => HH, ?_⟩
  refine dx_p (i := 12) HF rfl (by kernel_rfl) (by kernel_rfl) (by kernel_rfl) (by decide) (fun _ _ _ h => h) (fun _ => HH) (yl_neq rfl rfl (decide_eq_false (by exact (fun h => h rfl)))) rfl rfl ?_; clear HF ac; intro ac HF
  refine dx_done (by kernel_rfl) ?_
  clear HH
  refine then_n ?_
  refine cx_false HF rfl ?_
  refine wp_skip ?_
  refine then_n ?_
  refine wp_seq ?_
  refine wp_seq ?_
  refine dx_region 8 (by kernel_rfl) HS.drew (fun _ h => h) ?_; clear HS; intro w HS
  have HH := HS
  refine dx_p (i := 0) HF rfl (by kernel_rfl) (by kernel_rfl) (by kernel_rfl) (by decide) (fun _ _ _ h => h) (fun _ => HH) (fa_st fd82x2 rfl) rfl rfl ?_; clear HF ac; intro ac HF
  refine dx_k (i := 1) HF rfl (by kernel_rfl) (by kernel_rfl) (by kernel_rfl) (by kernel_rfl) (by kernel_rfl) (fun _ _ _ h => h) HH (ld_sc sc39 rfl rfl rfl) rfl rfl ?_; clear HF ac; intro ac HF
  refine dx_p (i := 2) HF rfl (by kernel_rfl) (by kernel_rfl) (by kernel_rfl) (by decide) (fun _ _ _ h => h) (fun _ => HH) (yl_move rfl) rfl rfl ?_; clear HF ac; intro ac HF
  refine dx_p (i := 3) HF rfl (by kernel_rfl) (by kernel_rfl) (by kernel_rfl) (by decide) (fun _ _ _ h => h) (fun _ => HH) (fa_st fd82x0 rfl) rfl rfl ?_; clear HF ac; intro ac HF
  refine dx_k (i := 4) HF rfl (by kernel_rfl) (by kernel_rfl) (by kernel_rfl) (by kernel_rfl) (by kernel_rfl) (fun _ _ _ h => h) HH (ld_sc sc3 rfl rfl rfl) rfl rfl ?_; clear HF ac; intro ac HF
  refine dx_p (i := 5) HF rfl (by kernel_rfl) (by kernel_rfl) (by kernel_rfl) (by decide) (fun _ _ _ h => h) (fun _ => HH) (ix_sl Tryd.underlying61 sz39 rfl rfl (by omega) hr.nil0) rfl rfl ?_; clear HF ac; intro ac HF
  refine dx_k (i := 6) HF rfl (by kernel_rfl) (by kernel_rfl) (by kernel_rfl) (by kernel_rfl) (by kernel_rfl) (fun _ _ _ h => h) HH (ld_elC sc39 rfl hbx (fun w h => hr.below h.kp)) rfl rfl ?_; clear HF ac; intro ac HF
  refine dx_one (i := 7) (by kernel_rfl) ?_
  refine op_call (i := 7) HF rfl Tryd.func100 (by kernel_rfl) (by kernel_rfl) (evs_cons rfl (evs_cons rfl evs_nil)) (bytesEq_any ys x.l v x.a k x.c w (hy.below HS.kp) (hpx.below HS.kp)) rfl rfl ?_; clear HF ac
  rintro _ w ⟨rfl, k1⟩
  rw [decide_eq_false hne]
  refine ⟨_, rfl, fun ac HF => ?_⟩
  replace HH := HH.call k1
  replace HS := HS.call k1
  clear k1
  refine ⟨fun _ => HH, ?_⟩
  refine dx_done (by kernel_rfl) ?_
  clear HH
  refine then_n ?_
  refine cx_false HF rfl ?_
  refine wp_skip ?_
  refine then_n ?_
  refine wp_seq ?_
  refine dx_region 9 (by kernel_rfl) HS.drew (fun _ h => h) ?_; clear HS; intro w HS
  have HH := HS
  refine dx_p (i := 0) HF rfl (by kernel_rfl) (by kernel_rfl) (by kernel_rfl) (by decide) (fun _ _ _ h => h) (fun _ => HH) (fa_st fd82x0 rfl) rfl rfl ?_; clear HF ac; intro ac HF
  refine dx_k (i := 1) HF rfl (by kernel_rfl) (by kernel_rfl) (by kernel_rfl) (by kernel_rfl) (by kernel_rfl) (fun _ _ _ h => h) HH (ld_sc sc3 rfl rfl rfl) rfl rfl ?_; clear HF ac; intro ac HF
  refine dx_p (i := 2) HF rfl (by kernel_rfl) (by kernel_rfl) (by kernel_rfl) (by decide) (fun _ _ _ h => h) (fun _ => HH) (fa_st fd82x1 rfl) rfl rfl ?_; clear HF ac; intro ac HF
  refine dx_k (i := 3) HF rfl (by kernel_rfl) (by kernel_rfl) (by kernel_rfl) (by kernel_rfl) (by kernel_rfl) (fun _ _ _ h => h) HH (ld_sc sc3 rfl rfl rfl) rfl rfl ?_; clear HF ac; intro ac HF
  refine dx_p (i := 4) HF rfl (by kernel_rfl) (by kernel_rfl) (by kernel_rfl) (by decide) (fun _ _ _ h => h) (fun _ => HH) (fa_st fd82x3 rfl) rfl rfl ?_; clear HF ac; intro ac HF
  refine dx_k (i := 5) HF rfl (by kernel_rfl) (by kernel_rfl) (by kernel_rfl) (by kernel_rfl) (by kernel_rfl) (fun _ _ _ h => h) HH (ld_sc sc22 rfl rfl rfl) rfl rfl ?_; clear HF ac; intro ac HF
  refine dx_p (i := 6) HF rfl (by kernel_rfl) (by kernel_rfl) (by kernel_rfl) (by decide) (fun _ _ _ h => h) (fun _ => HH) (yl_assign rfl) rfl rfl ?_; clear HF ac; intro ac HF
  refine dx_p (i := 7) HF rfl (by kernel_rfl) (by kernel_rfl) (by kernel_rfl) (by decide) (fun _ _ _ h => h) (fun _ => HH) (yl_assign rfl) rfl rfl ?_; clear HF ac; intro ac HF
  refine dx_p (i := 8) HF rfl (by kernel_rfl) (by kernel_rfl) (by kernel_rfl) (by decide) (fun _ _ _ h => h) (fun _ => HH) (yl_assign rfl) rfl rfl ?_; clear HF ac; intro ac HF
  refine dx_done (by kernel_rfl) ?_
  clear HH
  refine then_n ?_
  refine wp_seq ?_
  refine wp_block ?_
  replace HF := HF.sub (m' := [(0, _), (3, _), (4, _), (7, _), (8, _), (9, _), (10, _)]) (by repeat (first | exact ag_nil | refine ag_cons rfl ?_))
  refine cx_loop (m := [(0, _), (3, _), (4, _)]) (HF.sub (by repeat (first | exact ag_nil | refine ag_cons rfl ?_))) (fun m d ac w => ∃ (Y p : List Hsh) (u : Nat) (ax : Option Addr) (cx : Nat) (b2 : Option Addr) (e2 zz : Nat), zz = Y.length ∧ u < Y.length ∧ Y.length ≤ 100000 ∧ Y[u]? = some (leafH x.l) ∧ leadF u (Y.length - 1) (leafH ys) p = some (rootH Y) ∧ (∀ w, Rd w a7 (leavesH l).length c7 32 (hsc (leavesH l)) → Rd w ax Y.length cx 32 (hsc Y)) ∧ Rd w0 b2 p.length e2 32 (hsc p) ∧ d = Y.length ∧ Fr ([(7, .slice ax Y.length cx), (8, .int .i64 (u : Int)), (9, .int .i64 (zz : Int)), (10, .slice b2 p.length e2)] ++ m) 139 ac ∧ St [] w0 [⟨g4, sgA [(1, .slice none 0 0), (1, .slice none 0 0)], 85⟩, ⟨g3, sgA (clS l.length i v ys.length k v2 ps.length k2), 82⟩] [⟨33, 32, a7, (leavesH l).length, c7, hsc (leavesH l)⟩] w) ?_ ?_
  · exact ⟨_, leavesH l, ps, i, a7, c7, v2, k2, _, hlh.symm, by omega, by omega, hlx, hlead0, fun w h => h, hps, rfl, HF.sub (by repeat (first | exact ag_nil | refine ag_cons rfl ?_)), HS⟩
  · clear HF HS ac w
    rintro d ac w ⟨Y, p, u, ax, cx, b2, e2, _, rfl, hu, hyl, hyu, hlead, hx, hb2, rfl, HF, HS⟩
    refine wp_seq ?_
    refine wp_seq ?_
    refine wp_region_lit ?_
    refine sx_y HF HS (yl_move rfl) rfl rfl ?_; clear HF ac; intro ac HF
    refine sx_dec HF HS (yl_gtr rfl rfl rfl) rfl rfl ?_ ?_ <;> clear HF ac <;> intro h9x1 ac HF
    · obtain ⟨_, _, hs1, hs2, hs3⟩ := sp_spec Y.length (by omega) (by omega)
      have hlt : (Y.take (sp Y.length)).length = (sp Y.length) := by rw [List.length_take]; omega
      have hld : (Y.drop (sp Y.length)).length = Y.length - (sp Y.length) := by rw [List.length_drop]
      have hsplit := rootH_split Y (by omega) (by omega)
      obtain ⟨q, s, z, rfl, htl, htr⟩ := lead_top (by omega) hu (by omega) hlead
      have hql : (q ++ [s]).length = q.length + 1 := by simp
      have hqs : (q ++ [s])[q.length]? = some s := by simp
      have hqr : Rd w0 b2 q.length e2 32 (hsc q) := by
        have h := hb2.takeH q.length (by omega)
        rwa [List.take_left] at h
      have hlmb := hb2.lim
      refine wpList_nil ?_
      refine then_n ?_
      refine cx_true HF rfl ?_
      refine wp_skip ?_
      refine then_n ?_
      refine wp_block ?_
      refine wp_seq ?_
      replace HF := HF.sub (m' := [(0, _), (3, _), (4, _), (7, _), (8, _), (9, _), (10, _)]) (by repeat (first | exact ag_nil | refine ag_cons rfl ?_))
      refine dx_join HF HS (fun m L R ac w => ∃ g13, Fr ([(11, .int .i64 (sp Y.length : Int)), (12, .slice b2 q.length e2), (13, .pointer (some ⟨g13, 0, none⟩))] ++ m) 139 ac ∧ St [] w0 (⟨g13, sgA [(32, hv s)], 33⟩ :: L) R w) ?_ ?_
      · clear HF HS ac w
        rintro ac w ⟨g13, HF, HS⟩
        refine then_n ?_
        refine wp_seq ?_
        refine wp_region_lit ?_
        refine sx_y HF HS (yl_move rfl) rfl rfl ?_; clear HF ac; intro ac HF
        refine sx_call HF Tryd.func102 (by kernel_rfl) (by kernel_rfl) (evs_cons rfl evs_nil) (halves_any Y ax cx w (hx w HS.row0) (by omega) (hL.below HS.kp) (Nat.le_trans h2 HS.kp.size)) rfl rfl ?_; clear HF ac
        rintro _ w ⟨rfl, k1⟩
        refine ⟨_, rfl, fun ac HF => ?_⟩
        replace HS := HS.call k1
        clear k1
        refine sx_ef HF (ef_alloc HS ze142) rfl rfl ?_; clear HF HS ac; rintro _ w ac ⟨g14, rfl, HS⟩ HF
        refine sx_ef0 HF (ef_stores HS sz142 rfl rfl rfl rfl) rfl ?_; clear HS; rintro _ w HS
        refine wpList_nil ?_
        refine then_n ?_
        refine wp_seq ?_
        refine wp_region_lit ?_
        refine sx_y HF HS (ld_ag ag33 rfl rfl) rfl rfl ?_; clear HF ac; intro ac HF
        refine sx_y HF HS (ld_ag ag33 rfl rfl) rfl rfl ?_; clear HF ac; intro ac HF
        refine sx_y HF HS (bd_ar (parts := #[(0, .tmp 83), (1, .tmp 84)]) Tryd.underlying142 sz33 ze142 (evs_cons rfl (evs_cons rfl evs_nil)) (pl := [(0, 32), (32, 32)]) (by decide) (inferInstance : SgW [(32, _), (32, _)]) rfl) rfl rfl ?_; clear HF ac; intro ac HF
        refine sx_ef HF (ef_alloc HS ze142) rfl rfl ?_; clear HF HS ac; rintro _ w ac ⟨g15, rfl, HS⟩ HF
        refine sx_ef0 HF (ef_stores HS sz142 rfl rfl rfl rfl) rfl ?_; clear HS; rintro _ w HS
        refine wpList_nil ?_
        refine then_n ?_
        refine wp_seq ?_
        refine wp_region_lit ?_
        refine sx_y HF HS (yl_assign rfl) rfl rfl ?_; clear HF ac; intro ac HF
        refine wpList_nil ?_
        refine then_n ?_
        refine wp_seq ?_
        refine wp_seq ?_
        refine wp_region_lit ?_
        refine sx_y HF HS (yl_move rfl) rfl rfl ?_; clear HF ac; intro ac HF
        refine sx_y HF HS (yl_move rfl) rfl rfl ?_; clear HF ac; intro ac HF
        refine sx_dec HF HS (yl_geq rfl rfl rfl) rfl rfl ?_ ?_ <;> clear HF ac <;> intro h14x2 ac HF
        · obtain ⟨htr1, htr2⟩ := htr (by omega)
          rw [← hld] at htr1
          have HLD := fun w (k : Kp [] w0 w) => lead_good (leafH ys) (u - (sp Y.length)) (Y.drop (sp Y.length)).length q b2 e2 w (hqr.below k) (by omega) (by omega) (hL.below k) (Nat.le_trans h2 k.size)
          simp only [htr1, leadV_hv] at HLD
          refine wpList_nil ?_
          refine then_n ?_
          refine cx_true HF rfl ?_
          refine wp_seq ?_
          refine dx_region 9 (by kernel_rfl) HS.drew (fun _ h => h) ?_; clear HS; intro w HS
          have HH := HS
          have hlmx := (hx w HS.row0).lim
          refine dx_p (i := 0) HF rfl (by kernel_rfl) (by kernel_rfl) (by kernel_rfl) (by decide) (fun _ _ _ h => h) (fun _ => HH) (yl_move rfl) rfl rfl ?_; clear HF ac; intro ac HF
          refine dx_p (i := 1) HF rfl (by kernel_rfl) (by kernel_rfl) (by kernel_rfl) (by decide) (fun _ _ _ h => h) (fun _ => HH) (yl_move rfl) rfl rfl ?_; clear HF ac; intro ac HF
          refine dx_p (i := 2) HF rfl (by kernel_rfl) (by kernel_rfl) (by kernel_rfl) (by decide) (fun _ _ _ h => h) (fun _ => HH) (yl_sub64 (r := ((u - (sp Y.length) : Nat) : Int)) rfl rfl (by omega) (by omega)) rfl rfl ?_; clear HF ac; intro ac HF
          refine dx_p (i := 3) HF rfl (by kernel_rfl) (by kernel_rfl) (by kernel_rfl) (by decide) (fun _ _ _ h => h) (fun _ => HH) (yl_move rfl) rfl rfl ?_; clear HF ac; intro ac HF
          refine dx_p (i := 4) HF rfl (by kernel_rfl) (by kernel_rfl) (by kernel_rfl) (by decide) (fun _ _ _ h => h) (fun _ => HH) (yl_move rfl) rfl rfl ?_; clear HF ac; intro ac HF
          refine dx_p (i := 5) HF rfl (by kernel_rfl) (by kernel_rfl) (by kernel_rfl) (by decide) (fun _ _ _ h => h) (fun _ => HH) (sl_lo (r := (Y.drop (sp Y.length)).length) Tryd.underlying22 sz33 rfl rfl (by omega) (by rw [List.length_drop])) rfl rfl ?_; clear HF ac; intro ac HF
          refine dx_p (i := 6) HF rfl (by kernel_rfl) (by kernel_rfl) (by kernel_rfl) (by decide) (fun _ _ _ h => h) (fun _ => HH) (yl_assign rfl) rfl rfl ?_; clear HF ac; intro ac HF
          refine dx_p (i := 7) HF rfl (by kernel_rfl) (by kernel_rfl) (by kernel_rfl) (by decide) (fun _ _ _ h => h) (fun _ => HH) (yl_assign rfl) rfl rfl ?_; clear HF ac; intro ac HF
          refine dx_p (i := 8) HF rfl (by kernel_rfl) (by kernel_rfl) (by kernel_rfl) (by decide) (fun _ _ _ h => h) (fun _ => HH) (yl_assign rfl) rfl rfl ?_; clear HF ac; intro ac HF
          refine dx_done (by kernel_rfl) ?_
          clear HH
          refine then_n ?_
          refine wp_region_lit ?_
          refine sx_y HF HS (yl_move rfl) rfl rfl ?_; clear HF ac; intro ac HF
          refine sx_y HF HS (yl_move rfl) rfl rfl ?_; clear HF ac; intro ac HF
          refine sx_y HF HS (yl_sub64 (r := (((Y.drop (sp Y.length)).length : Nat) : Int)) rfl rfl (by omega) (by omega)) rfl rfl ?_; clear HF ac; intro ac HF
          refine sx_y HF HS (yl_assign rfl) rfl rfl ?_; clear HF ac; intro ac HF
          refine wpList_nil ?_
          refine then_n ?_
          refine wp_seq ?_
          refine wp_region_lit ?_
          refine sx_y HF HS (yl_move rfl) rfl rfl ?_; clear HF ac; intro ac HF
          refine sx_y HF HS (fa_st fd82x2 rfl) rfl rfl ?_; clear HF ac; intro ac HF
          refine sx_y HF HS (ld_sc sc39 rfl rfl rfl) rfl rfl ?_; clear HF ac; intro ac HF
          refine sx_call HF Tryd.func35 (by kernel_rfl) (by kernel_rfl) (evs_cons rfl evs_nil) (leaf_any v k ys w (hy.below HS.kp) (hL.below HS.kp) (Nat.le_trans h2 HS.kp.size)) rfl rfl ?_; clear HF ac
          rintro _ w ⟨rfl, k1⟩
          refine ⟨_, rfl, fun ac HF => ?_⟩
          replace HS := HS.call k1
          clear k1
          refine sx_y HF HS (yl_move rfl) rfl rfl ?_; clear HF ac; intro ac HF
          refine sx_y HF HS (yl_move rfl) rfl rfl ?_; clear HF ac; intro ac HF
          refine sx_y HF HS (yl_move rfl) rfl rfl ?_; clear HF ac; intro ac HF
          refine sx_call HF Tryd.func103 (by kernel_rfl) (by kernel_rfl) (evs_cons rfl (evs_cons rfl (evs_cons rfl (evs_cons rfl evs_nil)))) (HLD w HS.kp) rfl rfl ?_; clear HF ac
          rintro _ w ⟨rfl, k1⟩
          refine ⟨_, rfl, fun ac HF => ?_⟩
          replace HS := HS.call k1
          clear k1
          refine sx_y HF HS (yl_move rfl) rfl rfl ?_; clear HF ac; intro ac HF
          refine sx_y HF HS (yl_extract rfl rfl) rfl rfl ?_; clear HF ac; intro ac HF
          refine sx_y HF HS (yl_extract rfl rfl) rfl rfl ?_; clear HF ac; intro ac HF
          refine sx_y HF HS (ix_ar (k := 1) Tryd.underlying142 sz33 rfl rfl (by omega) rfl) rfl rfl ?_; clear HF ac; intro ac HF
          refine sx_ef0 HF (ef_store HS sz33 rfl rfl rfl) rfl ?_; clear HS; rintro _ w HS
          refine wpList_nil ?_
          refine then_n ?_
          refine wp_seq ?_
          refine wp_seq ?_
          refine wp_region_lit ?_
          refine sx_y HF HS (ld_all ag142 rfl rfl) rfl rfl ?_; clear HF ac; intro ac HF
          refine sx_y HF HS (ld_all ag142 rfl rfl) rfl rfl ?_; clear HF ac; intro ac HF
          refine sx_dec HF HS (yl_neH2 rfl rfl rfl) rfl rfl ?_ ?_ <;> clear HF ac <;> intro h20x2 ac HF
          · have hrb := right_nodes h20x2 (hsplit.symm.trans htr2)
            refine wpList_nil ?_
            refine then_n ?_
            refine cx_true HF rfl ?_
            refine wp_seq ?_
            refine wp_region_lit ?_
            refine sx_y HF HS (ld_all ag142 rfl rfl) rfl rfl ?_; clear HF ac; intro ac HF
            refine sx_y HF HS (ld_all ag142 rfl rfl) rfl rfl ?_; clear HF ac; intro ac HF
            refine sx_call HF Tryd.func104 (by kernel_rfl) (by kernel_rfl) (evs_cons rfl (evs_cons rfl evs_nil)) (nodes_any _ _ _ _ w (hL.below HS.kp) (Nat.le_trans h2 HS.kp.size)) rfl rfl ?_; clear HF ac
            rintro _ w ⟨a12, c12, a18, c18, rfl, k1⟩
            rw [hrb]
            refine ⟨_, rfl, fun ac HF => ?_⟩
            replace HS := HS.joinR2 k1
            clear k1
            refine sx_y HF HS (yl_move rfl) rfl rfl ?_; clear HF ac; intro ac HF
            refine sx_y HF HS (yl_extract rfl rfl) rfl rfl ?_; clear HF ac; intro ac HF
            refine sx_y HF HS (yl_extract rfl rfl) rfl rfl ?_; clear HF ac; intro ac HF
            refine sx_ef0 HF (ef_stores HS sz85 rfl rfl rfl rfl) rfl ?_; clear HS; rintro _ w HS
            refine sx_y HF HS (yl_assign rfl) rfl rfl ?_; clear HF ac; intro ac HF
            refine wpList_nil ?_
            refine then_n ?_
            refine wp_seq ?_
            refine wp_region_lit ?_
            refine sx_y HF HS (ld_all ag85 rfl rfl) rfl rfl ?_; clear HF ac; intro ac HF
            refine sx_y HF HS (yl_move rfl) rfl rfl ?_; clear HF ac; intro ac HF
            refine sx_ef0 HF (ef_stores HS sz85 rfl rfl rfl rfl) rfl ?_; clear HS; rintro _ w HS
            refine sx_y HF HS (yl_assign rfl) rfl rfl ?_; clear HF ac; intro ac HF
            refine sx_y HF HS (yl_assign rfl) rfl rfl ?_; clear HF ac; intro ac HF
            refine wpList_nil ?_
            refine then_n ?_
            refine wp_ret ?_
            refine then_r ?_
            refine blk_r ?_
            refine then_r ?_
            refine blk_r ?_
            refine then_r ?_
            exact rt3 rfl HF HS ⟨⟨_, rfl⟩, ld_all ag85 rfl rfl⟩ rfl rfl ⟨_, _, _, _, _, _, rfl, HS.sub (List.nil_sublist _) (List.Sublist.cons_cons _ (List.Sublist.cons_cons _ (List.nil_sublist _))), hrb⟩
          · obtain ⟨heq1, heq2⟩ := Decidable.not_not.1 h20x2
            refine wpList_nil ?_
            refine then_n ?_
            refine cx_false HF rfl ?_
            refine wp_skip ?_
            refine then_n ?_
            refine wp_region_lit ?_
            refine sx_y HF HS (yl_move rfl) rfl rfl ?_; clear HF ac; intro ac HF
            refine sx_y HF HS (yl_assign rfl) rfl rfl ?_; clear HF ac; intro ac HF
            refine wpList_nil ?_
            refine blk_n ?_
            refine then_n ?_
            refine ⟨_, ?_, Y.drop (sp Y.length), q, u - (sp Y.length), cutA ax (sp Y.length) cx 32, cx - (sp Y.length), b2, e2, _, rfl, by omega, by omega, ?_, ?_, fun w h => (hx w h).dropH (sp Y.length) (by omega), hqr, rfl, HF.sub (by repeat (first | exact ag_nil | refine ag_cons rfl ?_)), HS.d3⟩
            · omega
            · rw [List.getElem?_drop, show (sp Y.length) + (u - (sp Y.length)) = u by omega]; exact hyu
            · rw [heq2]; exact htr1
        · obtain ⟨htl1, htl2⟩ := htl (by omega)
          have HLD := fun w (k : Kp [] w0 w) => lead_good (leafH ys) u (sp Y.length) q b2 e2 w (hqr.below k) (by omega) (by omega) (hL.below k) (Nat.le_trans h2 k.size)
          simp only [htl1, leadV_hv] at HLD
          refine wpList_nil ?_
          refine then_n ?_
          refine cx_false HF rfl ?_
          refine wp_seq ?_
          refine wp_region_lit ?_
          have hlmx := (hx w HS.row0).lim
          refine sx_y HF HS (yl_move rfl) rfl rfl ?_; clear HF ac; intro ac HF
          refine sx_y HF HS (yl_move rfl) rfl rfl ?_; clear HF ac; intro ac HF
          refine sx_y HF HS (sl_hi (r := (Y.take (sp Y.length)).length) Tryd.underlying22 sz33 rfl rfl (by omega) (by rw [List.length_take]; omega)) rfl rfl ?_; clear HF ac; intro ac HF
          refine sx_y HF HS (yl_assign rfl) rfl rfl ?_; clear HF ac; intro ac HF
          refine wpList_nil ?_
          refine then_n ?_
          refine wp_region_lit ?_
          refine sx_y HF HS (yl_move rfl) rfl rfl ?_; clear HF ac; intro ac HF
          refine sx_y HF HS (yl_assign rfl) rfl rfl ?_; clear HF ac; intro ac HF
          refine wpList_nil ?_
          refine then_n ?_
          refine wp_seq ?_
          refine wp_region_lit ?_
          refine sx_y HF HS (yl_move rfl) rfl rfl ?_; clear HF ac; intro ac HF
          refine sx_y HF HS (fa_st fd82x2 rfl) rfl rfl ?_; clear HF ac; intro ac HF
          refine sx_y HF HS (ld_sc sc39 rfl rfl rfl) rfl rfl ?_; clear HF ac; intro ac HF
          refine sx_call HF Tryd.func35 (by kernel_rfl) (by kernel_rfl) (evs_cons rfl evs_nil) (leaf_any v k ys w (hy.below HS.kp) (hL.below HS.kp) (Nat.le_trans h2 HS.kp.size)) rfl rfl ?_; clear HF ac
          rintro _ w ⟨rfl, k1⟩
          refine ⟨_, rfl, fun ac HF => ?_⟩
          replace HS := HS.call k1
          clear k1
          refine sx_y HF HS (yl_move rfl) rfl rfl ?_; clear HF ac; intro ac HF
          refine sx_y HF HS (yl_move rfl) rfl rfl ?_; clear HF ac; intro ac HF
          refine sx_y HF HS (yl_move rfl) rfl rfl ?_; clear HF ac; intro ac HF
          refine sx_call HF Tryd.func103 (by kernel_rfl) (by kernel_rfl) (evs_cons rfl (evs_cons rfl (evs_cons rfl (evs_cons rfl evs_nil)))) (HLD w HS.kp) rfl rfl ?_; clear HF ac
          rintro _ w ⟨rfl, k1⟩
          refine ⟨_, rfl, fun ac HF => ?_⟩
          replace HS := HS.call k1
          clear k1
          refine sx_y HF HS (yl_move rfl) rfl rfl ?_; clear HF ac; intro ac HF
          refine sx_y HF HS (yl_extract rfl rfl) rfl rfl ?_; clear HF ac; intro ac HF
          refine sx_y HF HS (yl_extract rfl rfl) rfl rfl ?_; clear HF ac; intro ac HF
          refine sx_y HF HS (ix_ar (k := 0) Tryd.underlying142 sz33 rfl rfl (by omega) rfl) rfl rfl ?_; clear HF ac; intro ac HF
          refine sx_ef0 HF (ef_store HS sz33 rfl rfl rfl) rfl ?_; clear HS; rintro _ w HS
          refine wpList_nil ?_
          refine then_n ?_
          refine wp_seq ?_
          refine wp_seq ?_
          refine wp_region_lit ?_
          refine sx_y HF HS (ld_all ag142 rfl rfl) rfl rfl ?_; clear HF ac; intro ac HF
          refine sx_y HF HS (ld_all ag142 rfl rfl) rfl rfl ?_; clear HF ac; intro ac HF
          refine sx_dec HF HS (yl_neH2 rfl rfl rfl) rfl rfl ?_ ?_ <;> clear HF ac <;> intro h20x2 ac HF
          · have hrb := right_nodes h20x2 (hsplit.symm.trans htl2)
            refine wpList_nil ?_
            refine then_n ?_
            refine cx_true HF rfl ?_
            refine wp_seq ?_
            refine wp_region_lit ?_
            refine sx_y HF HS (ld_all ag142 rfl rfl) rfl rfl ?_; clear HF ac; intro ac HF
            refine sx_y HF HS (ld_all ag142 rfl rfl) rfl rfl ?_; clear HF ac; intro ac HF
            refine sx_call HF Tryd.func104 (by kernel_rfl) (by kernel_rfl) (evs_cons rfl (evs_cons rfl evs_nil)) (nodes_any _ _ _ _ w (hL.below HS.kp) (Nat.le_trans h2 HS.kp.size)) rfl rfl ?_; clear HF ac
            rintro _ w ⟨a12, c12, a18, c18, rfl, k1⟩
            rw [hrb]
            refine ⟨_, rfl, fun ac HF => ?_⟩
            replace HS := HS.joinR2 k1
            clear k1
            refine sx_y HF HS (yl_move rfl) rfl rfl ?_; clear HF ac; intro ac HF
            refine sx_y HF HS (yl_extract rfl rfl) rfl rfl ?_; clear HF ac; intro ac HF
            refine sx_y HF HS (yl_extract rfl rfl) rfl rfl ?_; clear HF ac; intro ac HF
            refine sx_ef0 HF (ef_stores HS sz85 rfl rfl rfl rfl) rfl ?_; clear HS; rintro _ w HS
            refine sx_y HF HS (yl_assign rfl) rfl rfl ?_; clear HF ac; intro ac HF
            refine wpList_nil ?_
            refine then_n ?_
            refine wp_seq ?_
            refine wp_region_lit ?_
            refine sx_y HF HS (ld_all ag85 rfl rfl) rfl rfl ?_; clear HF ac; intro ac HF
            refine sx_y HF HS (yl_move rfl) rfl rfl ?_; clear HF ac; intro ac HF
            refine sx_ef0 HF (ef_stores HS sz85 rfl rfl rfl rfl) rfl ?_; clear HS; rintro _ w HS
            refine sx_y HF HS (yl_assign rfl) rfl rfl ?_; clear HF ac; intro ac HF
            refine sx_y HF HS (yl_assign rfl) rfl rfl ?_; clear HF ac; intro ac HF
            refine wpList_nil ?_
            refine then_n ?_
            refine wp_ret ?_
            refine then_r ?_
            refine blk_r ?_
            refine then_r ?_
            refine blk_r ?_
            refine then_r ?_
            exact rt3 rfl HF HS ⟨⟨_, rfl⟩, ld_all ag85 rfl rfl⟩ rfl rfl ⟨_, _, _, _, _, _, rfl, HS.sub (List.nil_sublist _) (List.Sublist.cons_cons _ (List.Sublist.cons_cons _ (List.nil_sublist _))), hrb⟩
          · obtain ⟨heq1, heq2⟩ := Decidable.not_not.1 h20x2
            refine wpList_nil ?_
            refine then_n ?_
            refine cx_false HF rfl ?_
            refine wp_skip ?_
            refine then_n ?_
            refine wp_region_lit ?_
            refine sx_y HF HS (yl_move rfl) rfl rfl ?_; clear HF ac; intro ac HF
            refine sx_y HF HS (yl_assign rfl) rfl rfl ?_; clear HF ac; intro ac HF
            refine wpList_nil ?_
            refine blk_n ?_
            refine then_n ?_
            refine ⟨_, ?_, Y.take (sp Y.length), q, u, ax, cx, b2, e2, _, hlt.symm, by omega, by omega, ?_, ?_, fun w h => (hx w h).takeH (sp Y.length) (by omega), hqr, rfl, HF.sub (by repeat (first | exact ag_nil | refine ag_cons rfl ?_)), HS.d3⟩
            · omega
            · rw [List.getElem?_take, if_pos (by omega)]; exact hyu
            · rw [heq1, hlt]; exact htl1
      · intro J
        refine dx_region 16 (by kernel_rfl) HS.drew (fun _ h => h) ?_; clear HS; intro w HS
        have HH := HS
        refine dx_p (i := 0) HF rfl (by kernel_rfl) (by kernel_rfl) (by kernel_rfl) (by decide) (fun _ _ _ h => h) (fun _ => HH) (yl_move rfl) rfl rfl ?_; clear HF ac; intro ac HF
        refine dx_p (i := 2) HF rfl (by kernel_rfl) (by kernel_rfl) (by kernel_rfl) (by decide) (fun _ _ _ h => h) (fun _ => HH) (yl_move rfl) rfl rfl ?_; clear HF ac; intro ac HF
        refine dx_p (i := 3) HF rfl (by kernel_rfl) (by kernel_rfl) (by kernel_rfl) (by decide) (fun _ _ _ h => h) (fun _ => HH) (yl_move rfl) rfl rfl ?_; clear HF ac; intro ac HF
        refine dx_p (i := 4) HF rfl (by kernel_rfl) (by kernel_rfl) (by kernel_rfl) (by decide) (fun _ _ _ h => h) (fun _ => HH) (yl_len_slice Tryd.underlying22 rfl) rfl rfl ?_; clear HF ac; intro ac HF
        refine dx_p (i := 5) HF rfl (by kernel_rfl) (by kernel_rfl) (by kernel_rfl) (by decide) (fun _ _ _ h => h) (fun _ => HH) (yl_sub64 (r := ((q.length : Nat) : Int)) rfl rfl (by omega) (by omega)) rfl rfl ?_; clear HF ac; intro ac HF
        refine dx_p (i := 6) HF rfl (by kernel_rfl) (by kernel_rfl) (by kernel_rfl) (by decide) (fun _ _ _ h => h) (fun _ => HH) (sl_hi (r := q.length) Tryd.underlying22 sz33 rfl rfl (by omega) rfl) rfl rfl ?_; clear HF ac; intro ac HF
        refine dx_p (i := 7) HF rfl (by kernel_rfl) (by kernel_rfl) (by kernel_rfl) (by decide) (fun _ _ _ h => h) (fun _ => HH) (yl_move rfl) rfl rfl ?_; clear HF ac; intro ac HF
        refine dx_p (i := 8) HF rfl (by kernel_rfl) (by kernel_rfl) (by kernel_rfl) (by decide) (fun _ _ _ h => h) (fun _ => HH) (yl_move rfl) rfl rfl ?_; clear HF ac; intro ac HF
        refine dx_p (i := 9) HF rfl (by kernel_rfl) (by kernel_rfl) (by kernel_rfl) (by decide) (fun _ _ _ h => h) (fun _ => HH) (yl_len_slice Tryd.underlying22 rfl) rfl rfl ?_; clear HF ac; intro ac HF
        refine dx_p (i := 10) HF rfl (by kernel_rfl) (by kernel_rfl) (by kernel_rfl) (by decide) (fun _ _ _ h => h) (fun _ => HH) (yl_sub64 (r := ((q.length : Nat) : Int)) rfl rfl (by omega) (by omega)) rfl rfl ?_; clear HF ac; intro ac HF
        refine dx_p (i := 11) HF rfl (by kernel_rfl) (by kernel_rfl) (by kernel_rfl) (by decide) (fun _ _ _ h => h) (fun _ => HH) (ix_sl Tryd.underlying22 sz33 rfl rfl (by omega) hb2.nil0) rfl rfl ?_; clear HF ac; intro ac HF
        refine dx_k (i := 12) HF rfl (by kernel_rfl) (by kernel_rfl) (by kernel_rfl) (by kernel_rfl) (by kernel_rfl) (fun _ _ _ h => h) HH (ld_elH ag33 rfl hqs (fun w h => hb2.below h.kp)) rfl rfl ?_; clear HF ac; intro ac HF
        refine dx_two (i := 1) (j := 13) (by kernel_rfl) ?_ ?_
        · refine op_call (i := 1) HF rfl Tryd.func101 (by kernel_rfl) (by kernel_rfl) (evs_cons rfl evs_nil) (split_any Y.length w (by omega) (by omega)) rfl rfl ?_; clear HF ac
          rintro _ w ⟨rfl, rfl⟩
          refine ⟨_, rfl, fun ac HF => ?_⟩
          skip
          refine ⟨fun _ => HH, ?_⟩
          refine dx_one (i := 13) (by kernel_rfl) ?_
          refine op_ef (i := 13) HF rfl rfl rfl (ef_alloc HS ze33) ?_; clear HF HS ac; rintro _ w ac ⟨g13, rfl, HS⟩ HF
          replace HH := HS.d1
          refine ⟨fun _ => HH, ?_⟩
          refine dx_p (i := 14) HF rfl (by kernel_rfl) (by kernel_rfl) (by kernel_rfl) (by decide) (fun _ _ _ h => h) (fun _ => HH) (yl_assign rfl) rfl rfl ?_; clear HF ac; intro ac HF
          refine dx_p (i := 15) HF rfl (by kernel_rfl) (by kernel_rfl) (by kernel_rfl) (by decide) (fun _ _ _ h => h) (fun _ => HH) (yl_assign rfl) rfl rfl ?_; clear HF ac; intro ac HF
          refine dx_one (i := 16) (by kernel_rfl) ?_
          refine op_ef0 (i := 16) HF rfl rfl (ef_store HS sz33 rfl rfl rfl) ?_; clear HS; rintro _ w HS
          refine ⟨fun h => absurd h (by decide), ?_⟩
          refine dx_done (by kernel_rfl) ?_
          exact J _ _ ⟨_, HF.sub (by repeat (first | exact ag_nil | refine ag_cons rfl ?_)), HS⟩
        · refine op_ef (i := 13) HF rfl rfl rfl (ef_alloc HS ze33) ?_; clear HF HS ac; rintro _ w ac ⟨g13, rfl, HS⟩ HF
          replace HH := HS.d1
          refine ⟨fun _ => HH, ?_⟩
          refine dx_one (i := 1) (by kernel_rfl) ?_
          refine op_call (i := 1) HF rfl Tryd.func101 (by kernel_rfl) (by kernel_rfl) (evs_cons rfl evs_nil) (split_any Y.length w (by omega) (by omega)) rfl rfl ?_; clear HF ac
          rintro _ w ⟨rfl, rfl⟩
          refine ⟨_, rfl, fun ac HF => ?_⟩
          skip
          refine ⟨fun _ => HH, ?_⟩
          refine dx_p (i := 14) HF rfl (by kernel_rfl) (by kernel_rfl) (by kernel_rfl) (by decide) (fun _ _ _ h => h) (fun _ => HH) (yl_assign rfl) rfl rfl ?_; clear HF ac; intro ac HF
          refine dx_p (i := 15) HF rfl (by kernel_rfl) (by kernel_rfl) (by kernel_rfl) (by decide) (fun _ _ _ h => h) (fun _ => HH) (yl_assign rfl) rfl rfl ?_; clear HF ac; intro ac HF
          refine dx_one (i := 16) (by kernel_rfl) ?_
          refine op_ef0 (i := 16) HF rfl rfl (ef_store HS sz33 rfl rfl rfl) ?_; clear HS; rintro _ w HS
          refine ⟨fun h => absurd h (by decide), ?_⟩
          refine dx_done (by kernel_rfl) ?_
          exact J _ _ ⟨_, HF.sub (by repeat (first | exact ag_nil | refine ag_cons rfl ?_)), HS⟩
    · have hy1 : Y.length = 1 := by omega
      obtain ⟨y, rfl⟩ : ∃ y, Y = [y] := List.length_eq_one_iff.1 hy1
      obtain rfl : u = 0 := by omega
      obtain rfl : y = leafH x.l := Option.some.inj hyu
      obtain ⟨rfl, hroot⟩ := lead_one hlead
      have hrb := right_leaves (xs := x.l) (ys := ys) (fun h => hne h.symm) hroot
      refine wpList_nil ?_
      refine then_n ?_
      refine cx_false HF rfl ?_
      refine wp_exit ?_
      refine then_x ?_
      refine then_x ?_
      refine blk_hit ?_
      refine then_n ?_
      refine wp_seq ?_
      refine dx_region 11 (by kernel_rfl) HS.drew (fun _ h => h) ?_; clear HS; intro w HS
      have HH := HS
      refine dx_p (i := 0) HF rfl (by kernel_rfl) (by kernel_rfl) (by kernel_rfl) (by decide) (fun _ _ _ h => h) (fun _ => HH) (yl_move rfl) rfl rfl ?_; clear HF ac; intro ac HF
      refine dx_p (i := 1) HF rfl (by kernel_rfl) (by kernel_rfl) (by kernel_rfl) (by decide) (fun _ _ _ h => h) (fun _ => HH) (fa_st fd82x0 rfl) rfl rfl ?_; clear HF ac; intro ac HF
      refine dx_k (i := 2) HF rfl (by kernel_rfl) (by kernel_rfl) (by kernel_rfl) (by kernel_rfl) (by kernel_rfl) (fun _ _ _ h => h) HH (ld_sc sc3 rfl rfl rfl) rfl rfl ?_; clear HF ac; intro ac HF
      refine dx_p (i := 3) HF rfl (by kernel_rfl) (by kernel_rfl) (by kernel_rfl) (by decide) (fun _ _ _ h => h) (fun _ => HH) (ix_sl Tryd.underlying61 sz39 rfl rfl (by omega) hr.nil0) rfl rfl ?_; clear HF ac; intro ac HF
      refine dx_k (i := 4) HF rfl (by kernel_rfl) (by kernel_rfl) (by kernel_rfl) (by kernel_rfl) (by kernel_rfl) (fun _ _ _ h => h) HH (ld_elC sc39 rfl hbx (fun w h => hr.below h.kp)) rfl rfl ?_; clear HF ac; intro ac HF
      refine dx_p (i := 5) HF rfl (by kernel_rfl) (by kernel_rfl) (by kernel_rfl) (by decide) (fun _ _ _ h => h) (fun _ => HH) (fa_st fd82x2 rfl) rfl rfl ?_; clear HF ac; intro ac HF
      refine dx_k (i := 6) HF rfl (by kernel_rfl) (by kernel_rfl) (by kernel_rfl) (by kernel_rfl) (by kernel_rfl) (fun _ _ _ h => h) HH (ld_sc sc39 rfl rfl rfl) rfl rfl ?_; clear HF ac; intro ac HF
      refine dx_one (i := 7) (by kernel_rfl) ?_
      refine op_call (i := 7) HF rfl Tryd.func105 (by kernel_rfl) (by kernel_rfl) (evs_cons rfl (evs_cons rfl evs_nil)) (leaves2_any x.l ys x.a v x.c k w (hpx.below HS.kp) (hy.below HS.kp) (by omega) (by omega) (hL.below HS.kp) (Nat.le_trans h2 HS.kp.size)) rfl rfl ?_; clear HF ac
      rintro _ w ⟨a9, c9, a12, c12, rfl, k1⟩
      rw [hrb]
      refine ⟨_, rfl, fun ac HF => ?_⟩
      replace HH := HH.call k1.kp
      replace HS := HS.joinR2 k1
      clear k1
      refine ⟨fun _ => HH, ?_⟩
      refine dx_p (i := 8) HF rfl (by kernel_rfl) (by kernel_rfl) (by kernel_rfl) (by decide) (fun _ _ _ h => h) (fun _ => HH) (yl_move rfl) rfl rfl ?_; clear HF ac; intro ac HF
      refine dx_p (i := 9) HF rfl (by kernel_rfl) (by kernel_rfl) (by kernel_rfl) (by decide) (fun _ _ _ h => h) (fun _ => HH) (yl_extract rfl rfl) rfl rfl ?_; clear HF ac; intro ac HF
      refine dx_p (i := 10) HF rfl (by kernel_rfl) (by kernel_rfl) (by kernel_rfl) (by decide) (fun _ _ _ h => h) (fun _ => HH) (yl_extract rfl rfl) rfl rfl ?_; clear HF ac; intro ac HF
      refine dx_one (i := 11) (by kernel_rfl) ?_
      refine op_ef0 (i := 11) HF rfl rfl (ef_stores HS sz85 rfl rfl rfl rfl) ?_; clear HS; rintro _ w HS
      refine ⟨fun h => absurd h (by decide), ?_⟩
      refine dx_p (i := 12) HF rfl (by kernel_rfl) (by kernel_rfl) (by kernel_rfl) (by decide) (fun _ _ _ h => h) (fun h => absurd h (by decide)) (yl_assign rfl) rfl rfl ?_; clear HF ac; intro ac HF
      refine dx_done (by kernel_rfl) ?_
      clear HH
      refine then_n ?_
      refine wp_seq ?_
      refine wp_region_lit ?_
      refine sx_y HF HS (ld_all ag85 rfl rfl) rfl rfl ?_; clear HF ac; intro ac HF
      refine sx_y HF HS (yl_move rfl) rfl rfl ?_; clear HF ac; intro ac HF
      refine sx_ef0 HF (ef_stores HS sz85 rfl rfl rfl rfl) rfl ?_; clear HS; rintro _ w HS
      refine sx_y HF HS (yl_assign rfl) rfl rfl ?_; clear HF ac; intro ac HF
      refine sx_y HF HS (yl_assign rfl) rfl rfl ?_; clear HF ac; intro ac HF
      refine wpList_nil ?_
      refine then_n ?_
      refine wp_ret ?_
      exact rt3 rfl HF HS ⟨⟨_, rfl⟩, ld_all ag85 rfl rfl⟩ rfl rfl ⟨_, _, _, _, _, _, rfl, HS.sub (List.nil_sublist _) (List.Sublist.cons_cons _ (List.Sublist.cons_cons _ (List.nil_sublist _))), hrb⟩

end Go.Proofs.YtalnkhgonfcabaaDoor
