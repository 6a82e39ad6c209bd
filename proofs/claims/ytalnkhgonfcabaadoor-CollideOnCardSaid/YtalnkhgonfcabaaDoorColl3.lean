/-
  Lists of bytes: equal, small, hashes, the reference's Same. (Printed by sx_coll3.py.)
-/
import Derived.Test.YtalnkhgonfcabaaDoorColl1
import Derived.Test.YtalnkhgonfcabaaDoorLeaves
namespace Go.Proofs.YtalnkhgonfcabaaDoor
open Go.RowKit

/-! ### Types -/
namespace Coll3
theorem sc39 : ScT Tryd.prog 39 := ScT.mk' Tryd.underlying39 rfl (by kernel_rfl)
theorem sl22 : SlT Tryd.prog 22 33 Tryd.t33 (hv zeroH) 32 32 := ⟨Tryd.underlying22, by kernel_rfl, by kernel_rfl, rfl, rfl, hvA_size _, by decide⟩
theorem sz39 : (Tryd.prog.info? 39).map (·.size) = some 1 := by kernel_rfl
end Coll3
open Go.Proofs.YtalnkhgonfcabaaDoor.Coll3

def bsOf (l : List Pt) : List (List UInt8) := l.map (·.l)
theorem bsOf_length (l : List Pt) : (bsOf l).length = l.length := by simp [bsOf]
theorem bsOf_take (l : List Pt) (k : Nat) : bsOf (l.take k) = (bsOf l).take k := by simp [bsOf]
theorem bsOf_drop (l : List Pt) (k : Nat) : bsOf (l.drop k) = (bsOf l).drop k := by simp [bsOf]
theorem bsOf_at (l : List Pt) (k : Nat) (h : k < l.length) : (bsOf l).drop k = l[k].l :: (bsOf l).drop (k + 1) := by
  rw [List.drop_eq_getElem_cons (by rw [bsOf_length]; exact h)]; simp [bsOf]
theorem bs_ne_len {l r : List Pt} (h : l.length ≠ r.length) : ¬ bsOf l = bsOf r := fun hh => h (by have := congrArg List.length hh; rwa [bsOf_length, bsOf_length] at this)

set_option maxRecDepth 100000 in
theorem eqFunc_any (l : List Pt) (a : Option Addr) (c : Nat) (r : List Pt) (b : Option Addr) (e : Nat) (w0 : World) (hr : Rd w0 a l.length c 1 (pts l)) (hp : ∀ p ∈ l, Rd w0 p.a p.l.length p.c 1 (bcs p.l)) (hs : Rd w0 b r.length e 1 (pts r)) (hq : ∀ p ∈ r, Rd w0 p.a p.l.length p.c 1 (bcs p.l)) :
    Calls Tryd.prog 136 #[.slice a l.length c, .slice b r.length e, .func (.func 100) #[] #[]] w0 fun e w' => e = .returned (.bool (decide (bsOf l = bsOf r))) ∧ Kp [] w0 w' := by
  refine calls_st (F := []) (args := [.slice a l.length c, .slice b r.length e, .func (.func 100) #[] #[]]) Tryd.func136 rfl (n := 32) rfl rfl ?_
  intro ac w HF HS
  refine wp_seq ?_
  refine wp_region_lit ?_
  refine sx_y HF HS (yl_assign rfl) rfl rfl ?_; clear HF ac; intro ac HF
  refine wpList_nil ?_
  refine then_n ?_
  refine wp_seq ?_
  refine wp_seq ?_
  refine wp_region_lit ?_
  refine sx_y HF HS (yl_move rfl) rfl rfl ?_; clear HF ac; intro ac HF
  refine sx_y HF HS (yl_len_slice Tryd.underlying61 rfl) rfl rfl ?_; clear HF ac; intro ac HF
  refine sx_y HF HS (yl_move rfl) rfl rfl ?_; clear HF ac; intro ac HF
  refine sx_y HF HS (yl_len_slice Tryd.underlying61 rfl) rfl rfl ?_; clear HF ac; intro ac HF
  refine sx_dec HF HS (yl_neq rfl rfl rfl) rfl rfl ?_ ?_ <;> clear HF ac <;> intro h1x4 ac HF
  · refine wpList_nil ?_
    refine then_n ?_
    refine cx_true HF rfl ?_
    refine wp_seq ?_
    refine wp_region_lit ?_
    refine sx_y HF HS (yl_assign rfl) rfl rfl ?_; clear HF ac; intro ac HF
    refine wpList_nil ?_
    refine then_n ?_
    refine wp_ret ?_
    refine then_r ?_
    exact rt1 rfl HF HS rfl ⟨by rw [decide_eq_false (bs_ne_len (by omega))], HS.kp⟩
  · have hlen : l.length = r.length := by omega
    refine wpList_nil ?_
    refine then_n ?_
    refine cx_false HF rfl ?_
    refine wp_skip ?_
    refine then_n ?_
    refine wp_seq ?_
    refine wp_seq ?_
    refine wp_region_lit ?_
    refine sx_y HF HS (yl_move rfl) rfl rfl ?_; clear HF ac; intro ac HF
    refine sx_y HF HS (yl_len_slice Tryd.underlying61 rfl) rfl rfl ?_; clear HF ac; intro ac HF
    refine sx_y HF HS (yl_move rfl) rfl rfl ?_; clear HF ac; intro ac HF
    refine wpList_nil ?_
    refine then_n ?_
    refine wp_block ?_
    replace HF := HF.sub (m' := [(1, _), (2, _), (15, _), (16, _), (17, _)]) (by repeat (first | exact ag_nil | refine ag_cons rfl ?_))
    refine cx_loop (m := [(1, _), (2, _), (15, _), (16, _)]) (HF.sub (by repeat (first | exact ag_nil | refine ag_cons rfl ?_))) (fun m d ac w => ∃ k : Nat, k ≤ l.length ∧ (bsOf l = bsOf r ↔ (bsOf l).drop k = (bsOf r).drop k) ∧ d = l.length - k ∧ Fr ([(17, .int .i64 (k : Int))] ++ m) 32 ac ∧ St [] w0 [] [] w) ?_ ?_
    · exact ⟨_, 0, Nat.zero_le _, by simp, rfl, HF.sub (by repeat (first | exact ag_nil | refine ag_cons rfl ?_)), HS⟩
    · clear HF HS ac w
      rintro d ac w ⟨k, hk, hdk, rfl, HF, HS⟩
      refine wp_seq ?_
      refine wp_region_lit ?_
      refine sx_dec HF HS (yl_lss rfl rfl rfl) rfl rfl ?_ ?_ <;> clear HF ac <;> intro h4x0 ac HF
      · have hkl : k < l.length := by omega
        have hkr : k < r.length := by omega
        have hbl := pts_at l k hkl
        have hbr := pts_at r k hkr
        have hpl := hp _ (List.getElem_mem hkl)
        have hpr := hq _ (List.getElem_mem hkr)
        rw [bsOf_at l k hkl, bsOf_at r k hkr] at hdk
        generalize l[k] = x at *
        generalize r[k] = y at *
        have hlim := hr.lim
        refine wpList_nil ?_
        refine then_n ?_
        refine wp_seq ?_
        refine cx_true HF rfl ?_
        refine wp_skip ?_
        refine then_n ?_
        refine wp_seq ?_
        refine wp_block ?_
        refine wp_seq ?_
        refine wp_region_lit ?_
        refine sx_y HF HS (yl_move rfl) rfl rfl ?_; clear HF ac; intro ac HF
        refine sx_y HF HS (ix_sl Tryd.underlying61 sz39 rfl rfl (by omega) hr.nil0) rfl rfl ?_; clear HF ac; intro ac HF
        refine sx_y HF HS (ld_elC sc39 rfl hbl (fun w h => hr.below h.kp)) rfl rfl ?_; clear HF ac; intro ac HF
        refine sx_y HF HS (yl_assign rfl) rfl rfl ?_; clear HF ac; intro ac HF
        refine sx_y HF HS (yl_assign rfl) rfl rfl ?_; clear HF ac; intro ac HF
        refine wpList_nil ?_
        refine then_n ?_
        refine wp_seq ?_
        refine wp_region_lit ?_
        refine sx_y HF HS (yl_move rfl) rfl rfl ?_; clear HF ac; intro ac HF
        refine sx_y HF HS (yl_move rfl) rfl rfl ?_; clear HF ac; intro ac HF
        refine sx_y HF HS (ix_sl Tryd.underlying61 sz39 rfl rfl (by omega) hs.nil0) rfl rfl ?_; clear HF ac; intro ac HF
        refine sx_y HF HS (ld_elC sc39 rfl hbr (fun w h => hs.below h.kp)) rfl rfl ?_; clear HF ac; intro ac HF
        refine sx_y HF HS (yl_assign rfl) rfl rfl ?_; clear HF ac; intro ac HF
        refine wpList_nil ?_
        refine then_n ?_
        refine wp_seq ?_
        refine wp_region_lit ?_
        refine sx_y HF HS (yl_move rfl) rfl rfl ?_; clear HF ac; intro ac HF
        refine sx_y HF HS (yl_move rfl) rfl rfl ?_; clear HF ac; intro ac HF
        refine sx_y HF HS (yl_move rfl) rfl rfl ?_; clear HF ac; intro ac HF
        refine sx_callv (cap := []) HF rfl Tryd.func100 (by kernel_rfl) (by kernel_rfl) (evs_cons rfl (evs_cons rfl evs_nil)) (bytesEq_any x.l y.l x.a y.a x.c y.c w (hpl.below HS.kp) (hpr.below HS.kp)) rfl rfl ?_; clear HF ac
        rintro _ w ⟨rfl, k1⟩
        refine ⟨_, rfl, fun ac HF => ?_⟩
        replace HS := HS.call k1
        clear k1
        refine sx_y HF HS (yl_not rfl) rfl rfl ?_; clear HF ac; intro ac HF
        refine wpList_nil ?_
        refine then_n ?_
        refine cx_split HF rfl ?_ ?_ <;> intro hc7
        · have hxy : ¬ x.l = y.l := by simpa using hc7
          refine wp_seq ?_
          refine wp_region_lit ?_
          refine sx_y HF HS (yl_assign rfl) rfl rfl ?_; clear HF ac; intro ac HF
          refine wpList_nil ?_
          refine then_n ?_
          refine wp_ret ?_
          refine blk_r ?_
          refine then_r ?_
          refine then_r ?_
          refine blk_r ?_
          refine then_r ?_
          exact rt1 rfl HF HS rfl ⟨by rw [decide_eq_false (fun h => hxy (by have := hdk.1 h; simp only [List.cons.injEq] at this; exact this.1))], HS.kp⟩
        · have hxy : x.l = y.l := by simpa using hc7
          refine wp_skip ?_
          refine blk_n ?_
          refine then_n ?_
          refine wp_region_lit ?_
          refine sx_y HF HS (yl_add64 (r := ((k + 1 : Nat) : Int)) rfl rfl (by omega) (by omega)) rfl rfl ?_; clear HF ac; intro ac HF
          refine sx_y HF HS (yl_move rfl) rfl rfl ?_; clear HF ac; intro ac HF
          refine wpList_nil ?_
          refine then_n ?_
          refine ⟨_, ?_, k + 1, by omega, ?_, rfl, HF.sub (by repeat (first | exact ag_nil | refine ag_cons rfl ?_)), HS⟩
          · omega
          · rw [hdk, List.cons.injEq]; exact ⟨fun h => h.2, fun h => ⟨hxy, h⟩⟩
      · have hall : bsOf l = bsOf r := hdk.2 (by rw [List.drop_eq_nil_of_le (by rw [bsOf_length]; omega), List.drop_eq_nil_of_le (by rw [bsOf_length]; omega)])
        refine wpList_nil ?_
        refine then_n ?_
        refine wp_seq ?_
        refine cx_false HF rfl ?_
        refine wp_exit ?_
        refine then_x ?_
        refine then_x ?_
        refine blk_hit ?_
        refine then_n ?_
        refine wp_seq ?_
        refine wp_region_lit ?_
        refine sx_y HF HS (yl_assign rfl) rfl rfl ?_; clear HF ac; intro ac HF
        refine wpList_nil ?_
        refine then_n ?_
        refine wp_ret ?_
        exact rt1 rfl HF HS rfl ⟨by rw [decide_eq_true hall], HS.kp⟩

set_option maxRecDepth 100000 in
theorem equal_any (l : List Pt) (a : Option Addr) (c : Nat) (r : List Pt) (b : Option Addr) (e : Nat) (w0 : World) (hr : Rd w0 a l.length c 1 (pts l)) (hp : ∀ p ∈ l, Rd w0 p.a p.l.length p.c 1 (bcs p.l)) (hs : Rd w0 b r.length e 1 (pts r)) (hq : ∀ p ∈ r, Rd w0 p.a p.l.length p.c 1 (bcs p.l)) :
    Calls Tryd.prog 106 #[.slice a l.length c, .slice b r.length e] w0 fun e w' => e = .returned (.bool (decide (bsOf l = bsOf r))) ∧ Kp [] w0 w' := by
  refine calls_st (F := []) (args := [.slice a l.length c, .slice b r.length e]) Tryd.func106 rfl (n := 8) rfl rfl ?_
  intro ac w HF HS
  refine wp_seq ?_
  refine wp_region_lit ?_
  refine sx_y HF HS (yl_assign rfl) rfl rfl ?_; clear HF ac; intro ac HF
  refine wpList_nil ?_
  refine then_n ?_
  refine wp_seq ?_
  refine wp_region_lit ?_
  refine sx_y HF HS (yl_move rfl) rfl rfl ?_; clear HF ac; intro ac HF
  refine sx_y HF HS (yl_move rfl) rfl rfl ?_; clear HF ac; intro ac HF
  refine sx_call HF Tryd.func136 (by kernel_rfl) (by kernel_rfl) (evs_cons rfl (evs_cons rfl (evs_cons rfl evs_nil))) (eqFunc_any l a c r b e w (hr.below HS.kp) (fun p hm => (hp p hm).below HS.kp) (hs.below HS.kp) (fun p hm => (hq p hm).below HS.kp)) rfl rfl ?_; clear HF ac
  rintro _ w ⟨rfl, k1⟩
  refine ⟨_, rfl, fun ac HF => ?_⟩
  replace HS := HS.call k1
  clear k1
  refine sx_y HF HS (yl_assign rfl) rfl rfl ?_; clear HF ac; intro ac HF
  refine wpList_nil ?_
  refine then_n ?_
  refine wp_ret ?_
  exact rt1 rfl HF HS rfl ⟨rfl, HS.kp⟩

set_option maxRecDepth 100000 in
theorem same10_any (l : List Pt) (a : Option Addr) (c : Nat) (r : List Pt) (b : Option Addr) (e : Nat) (w0 : World) (hr : Rd w0 a l.length c 1 (pts l)) (hp : ∀ p ∈ l, Rd w0 p.a p.l.length p.c 1 (bcs p.l)) (hs : Rd w0 b r.length e 1 (pts r)) (hq : ∀ p ∈ r, Rd w0 p.a p.l.length p.c 1 (bcs p.l)) :
    Calls Tryd.prog 109 #[.slice a l.length c, .slice b r.length e] w0 fun e w' => e = .returned (.bool (decide (bsOf l = bsOf r))) ∧ Kp [] w0 w' := by
  refine calls_st (F := []) (args := [.slice a l.length c, .slice b r.length e]) Tryd.func109 rfl (n := 28) rfl rfl ?_
  intro ac w HF HS
  refine wp_seq ?_
  refine wp_region_lit ?_
  refine sx_y HF HS (yl_assign rfl) rfl rfl ?_; clear HF ac; intro ac HF
  refine wpList_nil ?_
  refine then_n ?_
  refine wp_seq ?_
  refine wp_seq ?_
  refine wp_region_lit ?_
  refine sx_y HF HS (yl_move rfl) rfl rfl ?_; clear HF ac; intro ac HF
  refine sx_y HF HS (yl_len_slice Tryd.underlying61 rfl) rfl rfl ?_; clear HF ac; intro ac HF
  refine sx_y HF HS (yl_move rfl) rfl rfl ?_; clear HF ac; intro ac HF
  refine sx_y HF HS (yl_len_slice Tryd.underlying61 rfl) rfl rfl ?_; clear HF ac; intro ac HF
  refine sx_dec HF HS (yl_neq rfl rfl rfl) rfl rfl ?_ ?_ <;> clear HF ac <;> intro h1x4 ac HF
  · refine wpList_nil ?_
    refine then_n ?_
    refine cx_true HF rfl ?_
    refine wp_seq ?_
    refine wp_region_lit ?_
    refine sx_y HF HS (yl_assign rfl) rfl rfl ?_; clear HF ac; intro ac HF
    refine wpList_nil ?_
    refine then_n ?_
    refine wp_ret ?_
    refine then_r ?_
    exact rt1 rfl HF HS rfl ⟨by rw [decide_eq_false (bs_ne_len (by omega))], HS.kp⟩
  · have hlen : l.length = r.length := by omega
    refine wpList_nil ?_
    refine then_n ?_
    refine cx_false HF rfl ?_
    refine wp_skip ?_
    refine then_n ?_
    refine wp_seq ?_
    refine wp_seq ?_
    refine wp_region_lit ?_
    refine sx_y HF HS (yl_assign rfl) rfl rfl ?_; clear HF ac; intro ac HF
    refine wpList_nil ?_
    refine then_n ?_
    refine wp_block ?_
    replace HF := HF.sub (m' := [(0, _), (1, _), (5, _)]) (by repeat (first | exact ag_nil | refine ag_cons rfl ?_))
    refine cx_loop (m := [(0, _), (1, _)]) (HF.sub (by repeat (first | exact ag_nil | refine ag_cons rfl ?_))) (fun m d ac w => ∃ k : Nat, k ≤ l.length ∧ (bsOf l = bsOf r ↔ (bsOf l).drop k = (bsOf r).drop k) ∧ d = l.length - k ∧ Fr ([(5, .int .i64 (k : Int))] ++ m) 28 ac ∧ St [] w0 [] [] w) ?_ ?_
    · exact ⟨_, 0, Nat.zero_le _, by simp, rfl, HF.sub (by repeat (first | exact ag_nil | refine ag_cons rfl ?_)), HS⟩
    · clear HF HS ac w
      rintro d ac w ⟨k, hk, hdk, rfl, HF, HS⟩
      refine wp_seq ?_
      refine wp_seq ?_
      refine wp_region_lit ?_
      refine sx_y HF HS (yl_move rfl) rfl rfl ?_; clear HF ac; intro ac HF
      refine sx_y HF HS (yl_move rfl) rfl rfl ?_; clear HF ac; intro ac HF
      refine sx_y HF HS (yl_len_slice Tryd.underlying61 rfl) rfl rfl ?_; clear HF ac; intro ac HF
      refine sx_dec HF HS (yl_lss rfl rfl rfl) rfl rfl ?_ ?_ <;> clear HF ac <;> intro h4x3 ac HF
      · have hkl : k < l.length := by omega
        have hkr : k < r.length := by omega
        have hbl := pts_at l k hkl
        have hbr := pts_at r k hkr
        have hpl := hp _ (List.getElem_mem hkl)
        have hpr := hq _ (List.getElem_mem hkr)
        rw [bsOf_at l k hkl, bsOf_at r k hkr] at hdk
        generalize l[k] = x at *
        generalize r[k] = y at *
        have hlim := hr.lim
        refine wpList_nil ?_
        refine then_n ?_
        refine cx_true HF rfl ?_
        refine wp_skip ?_
        refine then_n ?_
        refine wp_seq ?_
        refine wp_block ?_
        refine wp_seq ?_
        refine dx_region 11 (by kernel_rfl) HS.drew (fun _ h => h) ?_; clear HS; intro w HS
        have HH := HS
        refine dx_p (i := 0) HF rfl (by kernel_rfl) (by kernel_rfl) (by kernel_rfl) (by decide) (fun _ _ _ h => h) (fun _ => HH) (yl_move rfl) rfl rfl ?_; clear HF ac; intro ac HF
        refine dx_p (i := 1) HF rfl (by kernel_rfl) (by kernel_rfl) (by kernel_rfl) (by decide) (fun _ _ _ h => h) (fun _ => HH) (yl_move rfl) rfl rfl ?_; clear HF ac; intro ac HF
        refine dx_p (i := 2) HF rfl (by kernel_rfl) (by kernel_rfl) (by kernel_rfl) (by decide) (fun _ _ _ h => h) (fun _ => HH) (ix_sl Tryd.underlying61 sz39 rfl rfl (by omega) hr.nil0) rfl rfl ?_; clear HF ac; intro ac HF
        refine dx_k (i := 3) HF rfl (by kernel_rfl) (by kernel_rfl) (by kernel_rfl) (by kernel_rfl) (by kernel_rfl) (fun _ _ _ h => h) HH (ld_elC sc39 rfl hbl (fun w h => hr.below h.kp)) rfl rfl ?_; clear HF ac; intro ac HF
        refine dx_k (i := 4) HF rfl (by kernel_rfl) (by kernel_rfl) (by kernel_rfl) (by kernel_rfl) (by kernel_rfl) (fun _ _ _ h => h) HH (yl_str Tryd.underlying39 Tryd.underlying5 Tryd.underlying9 rfl (fun w h => hpl.below h.kp)) rfl rfl ?_; clear HF ac; intro ac HF
        refine dx_p (i := 5) HF rfl (by kernel_rfl) (by kernel_rfl) (by kernel_rfl) (by decide) (fun _ _ _ h => h) (fun _ => HH) (yl_move rfl) rfl rfl ?_; clear HF ac; intro ac HF
        refine dx_p (i := 6) HF rfl (by kernel_rfl) (by kernel_rfl) (by kernel_rfl) (by decide) (fun _ _ _ h => h) (fun _ => HH) (yl_move rfl) rfl rfl ?_; clear HF ac; intro ac HF
        refine dx_p (i := 7) HF rfl (by kernel_rfl) (by kernel_rfl) (by kernel_rfl) (by decide) (fun _ _ _ h => h) (fun _ => HH) (ix_sl Tryd.underlying61 sz39 rfl rfl (by omega) hs.nil0) rfl rfl ?_; clear HF ac; intro ac HF
        refine dx_k (i := 8) HF rfl (by kernel_rfl) (by kernel_rfl) (by kernel_rfl) (by kernel_rfl) (by kernel_rfl) (fun _ _ _ h => h) HH (ld_elC sc39 rfl hbr (fun w h => hs.below h.kp)) rfl rfl ?_; clear HF ac; intro ac HF
        refine dx_k (i := 9) HF rfl (by kernel_rfl) (by kernel_rfl) (by kernel_rfl) (by kernel_rfl) (by kernel_rfl) (fun _ _ _ h => h) HH (yl_str Tryd.underlying39 Tryd.underlying5 Tryd.underlying9 rfl (fun w h => hpr.below h.kp)) rfl rfl ?_; clear HF ac; intro ac HF
        refine dx_p (i := 10) HF rfl (by kernel_rfl) (by kernel_rfl) (by kernel_rfl) (by decide) (fun _ _ _ h => h) (fun _ => HH) (yl_neS rfl rfl rfl) rfl rfl ?_; clear HF ac; intro ac HF
        refine dx_done (by kernel_rfl) ?_
        clear HH
        refine then_n ?_
        refine cx_split HF rfl ?_ ?_ <;> intro hc6
        · have hxy : ¬ x.l = y.l := by simpa using hc6
          refine wp_seq ?_
          refine wp_region_lit ?_
          refine sx_y HF HS (yl_assign rfl) rfl rfl ?_; clear HF ac; intro ac HF
          refine wpList_nil ?_
          refine then_n ?_
          refine wp_ret ?_
          refine blk_r ?_
          refine then_r ?_
          refine then_r ?_
          refine blk_r ?_
          refine then_r ?_
          exact rt1 rfl HF HS rfl ⟨by rw [decide_eq_false (fun h => hxy (by have := hdk.1 h; simp only [List.cons.injEq] at this; exact this.1))], HS.kp⟩
        · have hxy : x.l = y.l := by simpa using hc6
          refine wp_skip ?_
          refine blk_n ?_
          refine then_n ?_
          refine wp_region_lit ?_
          refine sx_y HF HS (yl_move rfl) rfl rfl ?_; clear HF ac; intro ac HF
          refine sx_y HF HS (yl_add64 (r := ((k + 1 : Nat) : Int)) rfl rfl (by omega) (by omega)) rfl rfl ?_; clear HF ac; intro ac HF
          refine sx_y HF HS (yl_assign rfl) rfl rfl ?_; clear HF ac; intro ac HF
          refine wpList_nil ?_
          refine then_n ?_
          refine ⟨_, ?_, k + 1, by omega, ?_, rfl, HF.sub (by repeat (first | exact ag_nil | refine ag_cons rfl ?_)), HS⟩
          · omega
          · rw [hdk, List.cons.injEq]; exact ⟨fun h => h.2, fun h => ⟨hxy, h⟩⟩
      · have hall : bsOf l = bsOf r := hdk.2 (by rw [List.drop_eq_nil_of_le (by rw [bsOf_length]; omega), List.drop_eq_nil_of_le (by rw [bsOf_length]; omega)])
        refine wpList_nil ?_
        refine then_n ?_
        refine cx_false HF rfl ?_
        refine wp_exit ?_
        refine then_x ?_
        refine then_x ?_
        refine blk_hit ?_
        refine then_n ?_
        refine wp_seq ?_
        refine wp_region_lit ?_
        refine sx_y HF HS (yl_assign rfl) rfl rfl ?_; clear HF ac; intro ac HF
        refine wpList_nil ?_
        refine then_n ?_
        refine wp_ret ?_
        exact rt1 rfl HF HS rfl ⟨by rw [decide_eq_true hall], HS.kp⟩

def smallB (l : List Pt) : Bool := l.all (fun p => decide (p.l.length ≤ 200)) && decide (l.length ≤ 40)
theorem smallB_big {l : List Pt} {k : Nat} {x : Pt} (hx : l[k]? = some x) (h : ¬ x.l.length ≤ 200) : smallB l = false := by
  have hm := List.mem_of_getElem? hx
  unfold smallB
  rw [Bool.and_eq_false_iff]; left
  rw [List.all_eq_false]; exact ⟨x, hm, by simpa using h⟩
theorem smallB_end {l : List Pt} (h : ∀ p ∈ l, p.l.length ≤ 200) : smallB l = decide (l.length ≤ 40) := by
  unfold smallB
  rw [show (l.all fun p => decide (p.l.length ≤ 200)) = true by rw [List.all_eq_true]; exact fun p hp => decide_eq_true (h p hp)]
  simp
theorem smallB_is {l : List Pt} (h : smallB l = true) : (∀ p ∈ l, p.l.length ≤ 200) ∧ l.length ≤ 40 := by
  unfold smallB at h
  simpa using h

set_option maxRecDepth 100000 in
theorem small10_any (l : List Pt) (a : Option Addr) (c : Nat) (w0 : World) (hr : Rd w0 a l.length c 1 (pts l)) (_hp : ∀ p ∈ l, Rd w0 p.a p.l.length p.c 1 (bcs p.l)) :
    Calls Tryd.prog 56 #[.slice a l.length c] w0 fun e w' => e = .returned (.bool (smallB l)) ∧ Kp [] w0 w' := by
  refine calls_st (F := []) (args := [.slice a l.length c]) Tryd.func56 rfl (n := 18) rfl rfl ?_
  intro ac w HF HS
  refine wp_seq ?_
  refine wp_region_lit ?_
  refine sx_y HF HS (yl_assign rfl) rfl rfl ?_; clear HF ac; intro ac HF
  refine wpList_nil ?_
  refine then_n ?_
  refine wp_seq ?_
  refine wp_seq ?_
  refine wp_region_lit ?_
  refine sx_y HF HS (yl_move rfl) rfl rfl ?_; clear HF ac; intro ac HF
  refine sx_y HF HS (yl_len_slice Tryd.underlying61 rfl) rfl rfl ?_; clear HF ac; intro ac HF
  refine sx_y HF HS (yl_move rfl) rfl rfl ?_; clear HF ac; intro ac HF
  refine wpList_nil ?_
  refine then_n ?_
  refine wp_block ?_
  replace HF := HF.sub (m' := [(0, _), (5, _), (6, _), (7, _)]) (by repeat (first | exact ag_nil | refine ag_cons rfl ?_))
  refine cx_loop (m := [(0, _), (5, _), (6, _)]) (HF.sub (by repeat (first | exact ag_nil | refine ag_cons rfl ?_))) (fun m d ac w => ∃ k : Nat, k ≤ l.length ∧ (∀ p ∈ l.take k, p.l.length ≤ 200) ∧ d = l.length - k ∧ Fr ([(7, .int .i64 (k : Int))] ++ m) 18 ac ∧ St [] w0 [] [] w) ?_ ?_
  · exact ⟨_, 0, Nat.zero_le _, by simp, rfl, HF.sub (by repeat (first | exact ag_nil | refine ag_cons rfl ?_)), HS⟩
  · clear HF HS ac w
    rintro d ac w ⟨k, hk, hall, rfl, HF, HS⟩
    refine wp_seq ?_
    refine wp_region_lit ?_
    refine sx_dec HF HS (yl_lss rfl rfl rfl) rfl rfl ?_ ?_ <;> clear HF ac <;> intro h2x0 ac HF
    · have hkl : k < l.length := by omega
      have hbl := pts_at l k hkl
      have hlim := hr.lim
      have hxk : l[k]? = some l[k] := List.getElem?_eq_getElem hkl
      refine wpList_nil ?_
      refine then_n ?_
      refine wp_seq ?_
      refine cx_true HF rfl ?_
      refine wp_skip ?_
      refine then_n ?_
      refine wp_seq ?_
      refine wp_block ?_
      refine wp_seq ?_
      refine wp_region_lit ?_
      refine sx_y HF HS (ix_sl Tryd.underlying61 sz39 rfl rfl (by omega) hr.nil0) rfl rfl ?_; clear HF ac; intro ac HF
      refine sx_y HF HS (ld_elC sc39 rfl hbl (fun w h => hr.below h.kp)) rfl rfl ?_; clear HF ac; intro ac HF
      refine sx_y HF HS (yl_assign rfl) rfl rfl ?_; clear HF ac; intro ac HF
      refine wpList_nil ?_
      refine then_n ?_
      refine wp_seq ?_
      refine wp_region_lit ?_
      refine sx_y HF HS (yl_move rfl) rfl rfl ?_; clear HF ac; intro ac HF
      refine sx_y HF HS (yl_len_slice Tryd.underlying39 rfl) rfl rfl ?_; clear HF ac; intro ac HF
      refine sx_dec HF HS (yl_gtr rfl rfl rfl) rfl rfl ?_ ?_ <;> clear HF ac <;> intro h4x2 ac HF
      · refine wpList_nil ?_
        refine then_n ?_
        refine cx_true HF rfl ?_
        refine wp_seq ?_
        refine wp_region_lit ?_
        refine sx_y HF HS (yl_assign rfl) rfl rfl ?_; clear HF ac; intro ac HF
        refine wpList_nil ?_
        refine then_n ?_
        refine wp_ret ?_
        refine blk_r ?_
        refine then_r ?_
        refine then_r ?_
        refine blk_r ?_
        refine then_r ?_
        exact rt1 rfl HF HS rfl ⟨by rw [smallB_big hxk (by omega)], HS.kp⟩
      · refine wpList_nil ?_
        refine then_n ?_
        refine cx_false HF rfl ?_
        refine wp_skip ?_
        refine blk_n ?_
        refine then_n ?_
        refine wp_region_lit ?_
        refine sx_y HF HS (yl_add64 (r := ((k + 1 : Nat) : Int)) rfl rfl (by omega) (by omega)) rfl rfl ?_; clear HF ac; intro ac HF
        refine sx_y HF HS (yl_move rfl) rfl rfl ?_; clear HF ac; intro ac HF
        refine wpList_nil ?_
        refine then_n ?_
        refine ⟨_, ?_, k + 1, by omega, ?_, rfl, HF.sub (by repeat (first | exact ag_nil | refine ag_cons rfl ?_)), HS⟩
        · omega
        · rw [List.take_succ_eq_append_getElem hkl]
          intro p hpm
          rcases List.mem_append.1 hpm with h | h
          · exact hall p h
          · simp only [List.mem_singleton] at h; subst h; omega
    · obtain rfl : k = l.length := by omega
      rw [List.take_length] at hall
      refine wpList_nil ?_
      refine then_n ?_
      refine wp_seq ?_
      refine cx_false HF rfl ?_
      refine wp_exit ?_
      refine then_x ?_
      refine then_x ?_
      refine blk_hit ?_
      refine then_n ?_
      refine wp_seq ?_
      refine wp_region_lit ?_
      refine sx_y HF HS (yl_move rfl) rfl rfl ?_; clear HF ac; intro ac HF
      refine sx_y HF HS (yl_len_slice Tryd.underlying61 rfl) rfl rfl ?_; clear HF ac; intro ac HF
      refine sx_y HF HS (yl_leq rfl rfl rfl) rfl rfl ?_; clear HF ac; intro ac HF
      refine sx_y HF HS (yl_assign rfl) rfl rfl ?_; clear HF ac; intro ac HF
      refine wpList_nil ?_
      refine then_n ?_
      refine wp_ret ?_
      exact rt1 rfl HF HS rfl ⟨by rw [smallB_end hall]; congr 2; exact decide_eq_decide.2 (by omega), HS.kp⟩

set_option maxRecDepth 100000 in
theorem hashes10_any (l : List Pt) (a : Option Addr) (c : Nat) (w0 : World) (hr : Rd w0 a l.length c 1 (pts l)) (hp : ∀ p ∈ l, Rd w0 p.a p.l.length p.c 1 (bcs p.l)) (hll : l.length ≤ 100000) (hL : Laid w0) (h2 : 4 ≤ w0.heap.size) :
    Calls Tryd.prog 61 #[.slice a l.length c] w0 fun e w' => ∃ a3 c3, e = .returned (.slice a3 (leavesH l).length c3) ∧ St [] w0 [] [⟨33, 32, a3, (leavesH l).length, c3, hsc (leavesH l)⟩] w' := by
  refine calls_st (F := []) (args := [.slice a l.length c]) Tryd.func61 rfl (n := 19) rfl rfl ?_
  intro ac w HF HS
  refine wp_seq ?_
  refine wp_region_lit ?_
  refine sx_y HF HS (yl_assign rfl) rfl rfl ?_; clear HF ac; intro ac HF
  refine wpList_nil ?_
  refine then_n ?_
  refine wp_seq ?_
  refine wp_region_lit ?_
  refine sx_y HF HS (yl_assign rfl) rfl rfl ?_; clear HF ac; intro ac HF
  replace HS := HS.nilRow 33 32
  refine wpList_nil ?_
  refine then_n ?_
  refine wp_seq ?_
  refine wp_seq ?_
  refine wp_region_lit ?_
  refine sx_y HF HS (yl_move rfl) rfl rfl ?_; clear HF ac; intro ac HF
  refine sx_y HF HS (yl_len_slice Tryd.underlying61 rfl) rfl rfl ?_; clear HF ac; intro ac HF
  refine sx_y HF HS (yl_move rfl) rfl rfl ?_; clear HF ac; intro ac HF
  refine wpList_nil ?_
  refine then_n ?_
  refine wp_block ?_
  replace HF := HF.sub (m' := [(2, _), (6, _), (7, _), (8, _), (3, _)]) (by repeat (first | exact ag_nil | refine ag_cons rfl ?_))
  refine cx_loop (m := [(2, _), (6, _), (7, _)]) (HF.sub (by repeat (first | exact ag_nil | refine ag_cons rfl ?_))) (fun m d ac w => ∃ (k : Nat) (a3 : Option Addr) (c3 : Nat) (L : List Bk), k ≤ l.length ∧ d = l.length - k ∧ Fr ([(8, .int .i64 (k : Int)), (3, .slice a3 (leavesH (l.take k)).length c3)] ++ m) 19 ac ∧ St [] w0 [] [⟨33, 32, a3, (leavesH (l.take k)).length, c3, hsc (leavesH (l.take k))⟩] w) ?_ ?_
  · exact ⟨_, 0, none, 0, [], Nat.zero_le _, rfl, HF.sub (by repeat (first | exact ag_nil | refine ag_cons rfl ?_)), HS⟩
  · clear HF HS ac w
    rintro d ac w ⟨k, a3, c3, L, hk, rfl, HF, HS⟩
    refine wp_seq ?_
    refine wp_region_lit ?_
    refine sx_dec HF HS (yl_lss rfl rfl rfl) rfl rfl ?_ ?_ <;> clear HF ac <;> intro h3x0 ac HF
    · have hkl : k < l.length := by omega
      have hbl := pts_at l k hkl
      have hpl := hp _ (List.getElem_mem hkl)
      have hlk : leavesH (l.take (k + 1)) = leavesH (l.take k) ++ [leafH l[k].l] := by
        rw [List.take_succ_eq_append_getElem hkl]; unfold leavesH; rw [List.map_append]; rfl
      have hlim := hr.lim
      have hlk2 := leavesH_length (l.take k)
      have hlk3 : (l.take k).length = k := by rw [List.length_take]; omega
      refine wpList_nil ?_
      refine then_n ?_
      refine wp_seq ?_
      refine cx_true HF rfl ?_
      refine wp_skip ?_
      refine then_n ?_
      refine wp_seq ?_
      refine wp_block ?_
      refine wp_seq ?_
      refine wp_region_lit ?_
      refine sx_y HF HS (ix_sl Tryd.underlying61 sz39 rfl rfl (by omega) hr.nil0) rfl rfl ?_; clear HF ac; intro ac HF
      refine sx_y HF HS (ld_elC sc39 rfl hbl (fun w h => hr.below h.kp)) rfl rfl ?_; clear HF ac; intro ac HF
      refine sx_y HF HS (yl_assign rfl) rfl rfl ?_; clear HF ac; intro ac HF
      refine wpList_nil ?_
      refine then_n ?_
      refine wp_region_lit ?_
      refine sx_y HF HS (yl_move rfl) rfl rfl ?_; clear HF ac; intro ac HF
      refine sx_y HF HS (yl_move rfl) rfl rfl ?_; clear HF ac; intro ac HF
      refine sx_call HF Tryd.func35 (by kernel_rfl) (by kernel_rfl) (evs_cons rfl evs_nil) (leaf_any _ _ _ w (hpl.below HS.kp) (hL.below HS.kp) (Nat.le_trans h2 HS.kp.size)) rfl rfl ?_; clear HF ac
      rintro _ w ⟨rfl, k1⟩
      refine ⟨_, rfl, fun ac HF => ?_⟩
      replace HS := HS.call k1
      clear k1
      refine sx_ef HF (ef_lit (n := 1) HS sl22 (parts := #[(0, .tmp 14)]) (evs_cons rfl evs_nil) rfl rfl (s := [(32, _)]) rfl (by simp)) rfl rfl ?_; clear HF HS ac; rintro _ w ac ⟨g15, rfl, HS⟩ HF
      refine sx_ef HF (ef_append1 (n' := (leavesH (l.take (k + 1))).length) (ys := hsc (leavesH (l.take (k + 1)))) HS sl22 rfl rfl rfl (by rw [hlk]; simp) (by rw [hlk]; simp; omega) (by rw [hlk]; exact hsc_app1 _ _)) rfl rfl ?_; clear HF HS ac; rintro _ w ac ⟨a16, c16, rfl, HS⟩ HF
      refine sx_y HF HS (yl_assign rfl) rfl rfl ?_; clear HF ac; intro ac HF
      refine wpList_nil ?_
      refine blk_n ?_
      refine then_n ?_
      refine wp_region_lit ?_
      refine sx_y HF HS (yl_add64 (r := ((k + 1 : Nat) : Int)) rfl rfl (by omega) (by omega)) rfl rfl ?_; clear HF ac; intro ac HF
      refine sx_y HF HS (yl_move rfl) rfl rfl ?_; clear HF ac; intro ac HF
      refine wpList_nil ?_
      refine then_n ?_
      refine ⟨_, ?_, k + 1, _, _, [], by omega, rfl, HF.sub (by repeat (first | exact ag_nil | refine ag_cons rfl ?_)), HS.d1⟩
      omega
    · obtain rfl : k = l.length := by omega
      rw [List.take_length] at HF HS
      refine wpList_nil ?_
      refine then_n ?_
      refine wp_seq ?_
      refine cx_false HF rfl ?_
      refine wp_exit ?_
      refine then_x ?_
      refine then_x ?_
      refine blk_hit ?_
      refine then_n ?_
      refine wp_seq ?_
      refine wp_region_lit ?_
      refine sx_y HF HS (yl_move rfl) rfl rfl ?_; clear HF ac; intro ac HF
      refine sx_y HF HS (yl_assign rfl) rfl rfl ?_; clear HF ac; intro ac HF
      refine wpList_nil ?_
      refine then_n ?_
      refine wp_ret ?_
      exact rt1 rfl HF HS rfl ⟨_, _, rfl, HS⟩

end Go.Proofs.YtalnkhgonfcabaaDoor
