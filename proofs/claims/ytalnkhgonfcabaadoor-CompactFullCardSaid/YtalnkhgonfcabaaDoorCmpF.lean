/-
  CompactFull: its walk. (Printed by sx_cmpfull.py.)
-/
import Derived.Test.YtalnkhgonfcabaaDoorCmp7
namespace Go.Proofs.YtalnkhgonfcabaaDoor.compactFull
open Go.RowKit Go.Proofs.YtalnkhgonfcabaaDoor

/-! ### Types -/
namespace CmpF
theorem sz33 : (Tryd.prog.info? 33).map (·.size) = some 32 := by kernel_rfl
end CmpF
open Go.Proofs.YtalnkhgonfcabaaDoor.compactFull.CmpF

theorem pop_bits : ∀ (f n : Nat), n < 2 ^ f → pop n ≤ f
  | 0, n, h => by obtain rfl : n = 0 := by simpa using h
                  exact Nat.le_refl _
  | f + 1, n, h => by
    have e := Nat.pow_succ' (m := f) (n := 2)
    rw [pop_step]
    have := pop_bits f (n / 2) (by omega)
    omega

set_option maxRecDepth 100000 in
theorem walk_a (N : Int) (pks more : List Hsh) (a b : Option Addr) (c e : Nat) (w0 : World) (_hr : Rd w0 a pks.length c 32 (hsc pks)) (_hm : Rd w0 b more.length e 32 (hsc more)) (h : N < 0 ∨ 1048576 < N ∨ pks.length < 64 ∨ 40 < more.length) (hT : Tab w0) (hL : Laid w0) (h2 : 4 ≤ w0.heap.size) :
    Calls Tryd.prog 5 #[.int .i64 N, .slice a pks.length c, .slice b more.length e] w0 fun e w' => e = .returned (.bool true) ∧ Kp [] w0 w' := by
  refine calls_st (F := []) (args := [.int .i64 N, .slice a pks.length c, .slice b more.length e]) Tryd.func5 rfl (n := 94) rfl rfl ?_
  intro ac w HF HS
  refine wp_seq ?_
  refine wp_region_lit ?_
  refine sx_y HF HS (yl_assign rfl) rfl rfl ?_; clear HF ac; intro ac HF
  refine wpList_nil ?_
  refine then_n ?_
  refine wp_seq ?_
  refine wp_seq ?_
  refine wp_region_lit ?_
  refine sx_y HF HS (yl_move rfl) rfl rfl ?_; clear HF ac; intro ac HF
  refine sx_dec HF HS (yl_lss rfl rfl rfl) rfl rfl ?_ ?_ <;> clear HF ac <;> intro h1x1 ac HF
  · refine sx_y HF HS (yl_move rfl) rfl rfl ?_; clear HF ac; intro ac HF
    refine sx_off HF rfl rfl ?_; clear HF ac; intro ac HF
    refine sx_off HF rfl rfl ?_; clear HF ac; intro ac HF
    refine sx_y HF HS (yl_pick (b := true) rfl rfl) rfl rfl ?_; clear HF ac; intro ac HF
    refine sx_y HF HS (yl_move rfl) rfl rfl ?_; clear HF ac; intro ac HF
    refine sx_off HF rfl rfl ?_; clear HF ac; intro ac HF
    refine sx_off HF rfl rfl ?_; clear HF ac; intro ac HF
    refine sx_off HF rfl rfl ?_; clear HF ac; intro ac HF
    refine sx_y HF HS (yl_pick (b := true) rfl rfl) rfl rfl ?_; clear HF ac; intro ac HF
    refine sx_y HF HS (yl_move rfl) rfl rfl ?_; clear HF ac; intro ac HF
    refine sx_off HF rfl rfl ?_; clear HF ac; intro ac HF
    refine sx_off HF rfl rfl ?_; clear HF ac; intro ac HF
    refine sx_off HF rfl rfl ?_; clear HF ac; intro ac HF
    refine sx_y HF HS (yl_pick (b := true) rfl rfl) rfl rfl ?_; clear HF ac; intro ac HF
    refine wpList_nil ?_
    refine then_n ?_
    refine cx_true HF rfl ?_
    refine wp_seq ?_
    refine wp_region_lit ?_
    refine sx_call HF Tryd.func15 (by kernel_rfl) (by kernel_rfl) evs_nil (awake9_any w (hT.below HS.kp) (hL.below HS.kp) (Nat.le_trans h2 HS.kp.size)) rfl rfl ?_; clear HF ac
    rintro _ w ⟨rfl, k1⟩
    refine ⟨_, rfl, fun ac HF => ?_⟩
    replace HS := HS.call k1
    clear k1
    refine sx_y HF HS (yl_assign rfl) rfl rfl ?_; clear HF ac; intro ac HF
    refine wpList_nil ?_
    refine then_n ?_
    refine wp_ret ?_
    refine then_r ?_
    exact rt1 rfl HF HS rfl ⟨rfl, HS.kp⟩
  · refine sx_y HF HS (yl_move rfl) rfl rfl ?_; clear HF ac; intro ac HF
    refine sx_y HF HS (yl_move rfl) rfl rfl ?_; clear HF ac; intro ac HF
    refine sx_dec HF HS (yl_gtr rfl rfl rfl) rfl rfl ?_ ?_ <;> clear HF ac <;> intro h1x4 ac HF
    · refine sx_y HF HS (yl_pick (b := false) rfl rfl) rfl rfl ?_; clear HF ac; intro ac HF
      refine sx_y HF HS (yl_move rfl) rfl rfl ?_; clear HF ac; intro ac HF
      refine sx_off HF rfl rfl ?_; clear HF ac; intro ac HF
      refine sx_off HF rfl rfl ?_; clear HF ac; intro ac HF
      refine sx_off HF rfl rfl ?_; clear HF ac; intro ac HF
      refine sx_y HF HS (yl_pick (b := true) rfl rfl) rfl rfl ?_; clear HF ac; intro ac HF
      refine sx_y HF HS (yl_move rfl) rfl rfl ?_; clear HF ac; intro ac HF
      refine sx_off HF rfl rfl ?_; clear HF ac; intro ac HF
      refine sx_off HF rfl rfl ?_; clear HF ac; intro ac HF
      refine sx_off HF rfl rfl ?_; clear HF ac; intro ac HF
      refine sx_y HF HS (yl_pick (b := true) rfl rfl) rfl rfl ?_; clear HF ac; intro ac HF
      refine wpList_nil ?_
      refine then_n ?_
      refine cx_true HF rfl ?_
      refine wp_seq ?_
      refine wp_region_lit ?_
      refine sx_call HF Tryd.func15 (by kernel_rfl) (by kernel_rfl) evs_nil (awake9_any w (hT.below HS.kp) (hL.below HS.kp) (Nat.le_trans h2 HS.kp.size)) rfl rfl ?_; clear HF ac
      rintro _ w ⟨rfl, k1⟩
      refine ⟨_, rfl, fun ac HF => ?_⟩
      replace HS := HS.call k1
      clear k1
      refine sx_y HF HS (yl_assign rfl) rfl rfl ?_; clear HF ac; intro ac HF
      refine wpList_nil ?_
      refine then_n ?_
      refine wp_ret ?_
      refine then_r ?_
      exact rt1 rfl HF HS rfl ⟨rfl, HS.kp⟩
    · refine sx_y HF HS (yl_pick (b := false) rfl rfl) rfl rfl ?_; clear HF ac; intro ac HF
      refine sx_y HF HS (yl_move rfl) rfl rfl ?_; clear HF ac; intro ac HF
      refine sx_y HF HS (yl_move rfl) rfl rfl ?_; clear HF ac; intro ac HF
      refine sx_y HF HS (yl_len_slice Tryd.underlying22 rfl) rfl rfl ?_; clear HF ac; intro ac HF
      refine sx_dec HF HS (yl_lss rfl rfl rfl) rfl rfl ?_ ?_ <;> clear HF ac <;> intro h1x9 ac HF
      · refine sx_y HF HS (yl_pick (b := false) rfl rfl) rfl rfl ?_; clear HF ac; intro ac HF
        refine sx_y HF HS (yl_move rfl) rfl rfl ?_; clear HF ac; intro ac HF
        refine sx_off HF rfl rfl ?_; clear HF ac; intro ac HF
        refine sx_off HF rfl rfl ?_; clear HF ac; intro ac HF
        refine sx_off HF rfl rfl ?_; clear HF ac; intro ac HF
        refine sx_y HF HS (yl_pick (b := true) rfl rfl) rfl rfl ?_; clear HF ac; intro ac HF
        refine wpList_nil ?_
        refine then_n ?_
        refine cx_true HF rfl ?_
        refine wp_seq ?_
        refine wp_region_lit ?_
        refine sx_call HF Tryd.func15 (by kernel_rfl) (by kernel_rfl) evs_nil (awake9_any w (hT.below HS.kp) (hL.below HS.kp) (Nat.le_trans h2 HS.kp.size)) rfl rfl ?_; clear HF ac
        rintro _ w ⟨rfl, k1⟩
        refine ⟨_, rfl, fun ac HF => ?_⟩
        replace HS := HS.call k1
        clear k1
        refine sx_y HF HS (yl_assign rfl) rfl rfl ?_; clear HF ac; intro ac HF
        refine wpList_nil ?_
        refine then_n ?_
        refine wp_ret ?_
        refine then_r ?_
        exact rt1 rfl HF HS rfl ⟨rfl, HS.kp⟩
      · refine sx_y HF HS (yl_pick (b := false) rfl rfl) rfl rfl ?_; clear HF ac; intro ac HF
        refine sx_y HF HS (yl_move rfl) rfl rfl ?_; clear HF ac; intro ac HF
        refine sx_y HF HS (yl_move rfl) rfl rfl ?_; clear HF ac; intro ac HF
        refine sx_y HF HS (yl_len_slice Tryd.underlying22 rfl) rfl rfl ?_; clear HF ac; intro ac HF
        refine sx_dec HF HS (yl_gtr rfl rfl rfl) rfl rfl ?_ ?_ <;> clear HF ac <;> intro h1x14 ac HF
        · refine sx_y HF HS (yl_pick (b := false) rfl rfl) rfl rfl ?_; clear HF ac; intro ac HF
          refine wpList_nil ?_
          refine then_n ?_
          refine cx_true HF rfl ?_
          refine wp_seq ?_
          refine wp_region_lit ?_
          refine sx_call HF Tryd.func15 (by kernel_rfl) (by kernel_rfl) evs_nil (awake9_any w (hT.below HS.kp) (hL.below HS.kp) (Nat.le_trans h2 HS.kp.size)) rfl rfl ?_; clear HF ac
          rintro _ w ⟨rfl, k1⟩
          refine ⟨_, rfl, fun ac HF => ?_⟩
          replace HS := HS.call k1
          clear k1
          refine sx_y HF HS (yl_assign rfl) rfl rfl ?_; clear HF ac; intro ac HF
          refine wpList_nil ?_
          refine then_n ?_
          refine wp_ret ?_
          refine then_r ?_
          exact rt1 rfl HF HS rfl ⟨rfl, HS.kp⟩
        · exact absurd h (by omega)

set_option maxRecDepth 100000 in
theorem walk_b (n : Nat) (pks more : List Hsh) (a b : Option Addr) (c e : Nat) (w0 : World) (hr : Rd w0 a pks.length c 32 (hsc pks)) (hm : Rd w0 b more.length e 32 (hsc more)) (hn : n ≤ 1048576) (hpk : 64 ≤ pks.length) (hml : more.length ≤ 40) (h : 1048576 < n + more.length) (hT : Tab w0) (hL : Laid w0) (h2 : 4 ≤ w0.heap.size) :
    Calls Tryd.prog 5 #[.int .i64 (n : Int), .slice a pks.length c, .slice b more.length e] w0 fun e w' => e = .returned (.bool true) ∧ Kp [] w0 w' := by
  have hlm := hr.lim
  have hpb := pop_bits 21 n (by omega)
  obtain ⟨ps, hps⟩ : ∃ x, x = pks.take (pop n) := ⟨_, rfl⟩
  have hpl : ps.length = pop n := by rw [hps, List.length_take]; omega
  have hrp : Rd w0 a ps.length c 32 (hsc ps) := by rw [hps]; exact hr.takeH (pop n) (by omega)
  have hbl := rgB_len n ps
  obtain ⟨q1, q2⟩ := parse_bytes n ps hn (by omega)
  have hpS : (pS (rgB n ps)).1 = (n : Int) := by rw [q1]
  have hpH : (pH (rgB n ps)).1 = ps := by rw [q2]
  have hpO : pOk (rgB n ps) = true := by unfold pOk; rw [q1, q2]; simp [isDone, hpl]
  refine calls_st (F := []) (args := [.int .i64 (n : Int), .slice a pks.length c, .slice b more.length e]) Tryd.func5 rfl (n := 94) rfl rfl ?_
  intro ac w HF HS
  refine wp_seq ?_
  refine wp_region_lit ?_
  refine sx_y HF HS (yl_assign rfl) rfl rfl ?_; clear HF ac; intro ac HF
  refine wpList_nil ?_
  refine then_n ?_
  refine wp_seq ?_
  refine wp_seq ?_
  refine wp_region_lit ?_
  refine sx_y HF HS (yl_move rfl) rfl rfl ?_; clear HF ac; intro ac HF
  refine sx_y HF HS (yl_lss rfl rfl (decide_eq_false (by omega))) rfl rfl ?_; clear HF ac; intro ac HF
  refine sx_y HF HS (yl_move rfl) rfl rfl ?_; clear HF ac; intro ac HF
  refine sx_y HF HS (yl_move rfl) rfl rfl ?_; clear HF ac; intro ac HF
  refine sx_y HF HS (yl_gtr rfl rfl (decide_eq_false (by omega))) rfl rfl ?_; clear HF ac; intro ac HF
  refine sx_y HF HS (yl_pick (b := false) rfl rfl) rfl rfl ?_; clear HF ac; intro ac HF
  refine sx_y HF HS (yl_move rfl) rfl rfl ?_; clear HF ac; intro ac HF
  refine sx_y HF HS (yl_move rfl) rfl rfl ?_; clear HF ac; intro ac HF
  refine sx_y HF HS (yl_len_slice Tryd.underlying22 rfl) rfl rfl ?_; clear HF ac; intro ac HF
  refine sx_y HF HS (yl_lss rfl rfl (decide_eq_false (by omega))) rfl rfl ?_; clear HF ac; intro ac HF
  refine sx_y HF HS (yl_pick (b := false) rfl rfl) rfl rfl ?_; clear HF ac; intro ac HF
  refine sx_y HF HS (yl_move rfl) rfl rfl ?_; clear HF ac; intro ac HF
  refine sx_y HF HS (yl_move rfl) rfl rfl ?_; clear HF ac; intro ac HF
  refine sx_y HF HS (yl_len_slice Tryd.underlying22 rfl) rfl rfl ?_; clear HF ac; intro ac HF
  refine sx_y HF HS (yl_gtr rfl rfl (decide_eq_false (by omega))) rfl rfl ?_; clear HF ac; intro ac HF
  refine sx_y HF HS (yl_pick (b := false) rfl rfl) rfl rfl ?_; clear HF ac; intro ac HF
  refine wpList_nil ?_
  refine then_n ?_
  refine cx_false HF rfl ?_
  refine wp_skip ?_
  refine then_n ?_
  refine wp_seq ?_
  refine wp_region_lit ?_
  refine sx_y HF HS (yl_move rfl) rfl rfl ?_; clear HF ac; intro ac HF
  refine sx_y HF HS (yl_move rfl) rfl rfl ?_; clear HF ac; intro ac HF
  refine sx_y HF HS (yl_move rfl) rfl rfl ?_; clear HF ac; intro ac HF
  refine sx_call HF Tryd.func27 (by kernel_rfl) (by kernel_rfl) (evs_cons rfl evs_nil) (refCount_any n w (by omega)) rfl rfl ?_; clear HF ac
  rintro _ w ⟨rfl, k1⟩
  refine ⟨_, rfl, fun ac HF => ?_⟩
  replace HS := HS.call k1
  clear k1
  refine sx_y HF HS (sl_hi (r := ps.length) Tryd.underlying22 sz33 rfl rfl (by omega) (by omega)) rfl rfl ?_; clear HF ac; intro ac HF
  refine sx_call HF Tryd.func25 (by kernel_rfl) (by kernel_rfl) (evs_cons rfl (evs_cons rfl evs_nil)) (bytes9_any n ps a c w (hrp.below HS.kp) (by omega)) rfl rfl ?_; clear HF ac
  rintro _ w ⟨rfl, k1⟩
  refine ⟨_, rfl, fun ac HF => ?_⟩
  replace HS := HS.call k1
  clear k1
  refine sx_ef HF (ef_strB HS Tryd.underlying9 Tryd.underlying39 Tryd.underlying5 rfl (by omega)) rfl rfl ?_; clear HF HS ac; rintro _ w ac ⟨g35, c35, rfl, HS, hrd35⟩ HF
  refine sx_call HF Tryd.func26 (by kernel_rfl) (by kernel_rfl) (evs_cons rfl evs_nil) (parse9_ok (rgB n ps) (some ⟨g35, 0, none⟩) c35 n w hrd35 (by omega) hpS hpO) rfl rfl ?_; clear HF ac
  rintro _ w ⟨g, a1, c1, rfl, k1⟩
  rw [hpH] at k1
  refine ⟨_, rfl, fun ac HF => ?_⟩
  replace HS : St [] w0 [⟨g, sgA (rgS ((n : Nat) : Int) a1 ps.length c1), 101⟩] [⟨33, 32, a1, ps.length, c1, hsc ps⟩] w := HS.join k1
  clear k1
  refine sx_y HF HS (yl_move rfl) rfl rfl ?_; clear HF ac; intro ac HF
  refine sx_y HF HS (yl_extract rfl rfl) rfl rfl ?_; clear HF ac; intro ac HF
  refine sx_y HF HS (yl_extract rfl rfl) rfl rfl ?_; clear HF ac; intro ac HF
  refine sx_y HF HS (yl_assign rfl) rfl rfl ?_; clear HF ac; intro ac HF
  refine sx_y HF HS (yl_assign rfl) rfl rfl ?_; clear HF ac; intro ac HF
  refine wpList_nil ?_
  refine then_n ?_
  refine wp_seq ?_
  refine wp_seq ?_
  refine wp_region_lit ?_
  refine sx_y HF HS (yl_move rfl) rfl rfl ?_; clear HF ac; intro ac HF
  refine sx_y HF HS (yl_neq rfl rfl (decide_eq_false (by exact (fun h => h rfl)))) rfl rfl ?_; clear HF ac; intro ac HF
  refine sx_y HF HS (yl_move rfl) rfl rfl ?_; clear HF ac; intro ac HF
  refine sx_y HF HS (yl_move rfl) rfl rfl ?_; clear HF ac; intro ac HF
  refine sx_y HF HS (yl_eqPtr Tryd.underlying25 rfl rfl (by exact rfl)) rfl rfl ?_; clear HF ac; intro ac HF
  refine sx_y HF HS (yl_pick (b := false) rfl rfl) rfl rfl ?_; clear HF ac; intro ac HF
  refine wpList_nil ?_
  refine then_n ?_
  refine cx_false HF rfl ?_
  refine wp_skip ?_
  refine then_n ?_
  refine wp_seq ?_
  refine wp_region_lit ?_
  refine sx_y HF HS (yl_move rfl) rfl rfl ?_; clear HF ac; intro ac HF
  refine sx_call HF Tryd.func28 (by kernel_rfl) (by kernel_rfl) (evs_cons rfl evs_nil) (copy9_any g n ps a1 c1 w ⟨HS.blk _ List.mem_cons_self, HS.row _ List.mem_cons_self⟩ (by omega)) rfl rfl ?_; clear HF ac
  rintro _ w ⟨g2, a2, c2, rfl, k1⟩
  refine ⟨_, rfl, fun ac HF => ?_⟩
  replace HS : St [] w0 [⟨g2, sgA (rgS ((n : Nat) : Int) a2 ps.length c2), 101⟩, ⟨g, sgA (rgS ((n : Nat) : Int) a1 ps.length c1), 101⟩] [⟨33, 32, a2, ps.length, c2, hsc ps⟩, ⟨33, 32, a1, ps.length, c1, hsc ps⟩] w := HS.join k1
  clear k1
  refine sx_y HF HS (yl_assign rfl) rfl rfl ?_; clear HF ac; intro ac HF
  refine wpList_nil ?_
  refine then_n ?_
  refine wp_seq ?_
  refine wp_region_lit ?_
  refine sx_y HF HS (yl_move rfl) rfl rfl ?_; clear HF ac; intro ac HF
  refine sx_y HF HS (yl_move rfl) rfl rfl ?_; clear HF ac; intro ac HF
  refine sx_call HF Tryd.func17 (by kernel_rfl) (by kernel_rfl) (evs_cons rfl (evs_cons rfl evs_nil)) (append9_many g n ps more a1 b c1 e w ⟨HS.blk _ (List.mem_cons_of_mem _ List.mem_cons_self), HS.row _ (List.mem_cons_of_mem _ List.mem_cons_self)⟩ (hm.below HS.kp) h hn) rfl rfl ?_; clear HF ac
  rintro _ w ⟨rfl, k1⟩
  refine ⟨_, rfl, fun ac HF => ?_⟩
  replace HS := HS.call k1
  clear k1
  refine sx_y HF HS (yl_assign rfl) rfl rfl ?_; clear HF ac; intro ac HF
  refine wpList_nil ?_
  refine then_n ?_
  refine wp_seq ?_
  refine wp_seq ?_
  refine wp_region_lit ?_
  refine sx_y HF HS (yl_move rfl) rfl rfl ?_; clear HF ac; intro ac HF
  refine sx_y HF HS (yl_move rfl) rfl rfl ?_; clear HF ac; intro ac HF
  refine sx_y HF HS (yl_len_slice Tryd.underlying22 rfl) rfl rfl ?_; clear HF ac; intro ac HF
  refine sx_y HF HS (yl_add64 (r := ((n + more.length : Nat) : Int)) rfl rfl (by omega) (by omega)) rfl rfl ?_; clear HF ac; intro ac HF
  refine sx_y HF HS (yl_gtr rfl rfl (decide_eq_true (by omega))) rfl rfl ?_; clear HF ac; intro ac HF
  refine wpList_nil ?_
  refine then_n ?_
  refine cx_true HF rfl ?_
  refine wp_seq ?_
  refine wp_region_lit ?_
  refine sx_y HF HS (yl_move rfl) rfl rfl ?_; clear HF ac; intro ac HF
  refine sx_y HF HS (yl_eql rfl rfl (decide_eq_true (by exact rfl))) rfl rfl ?_; clear HF ac; intro ac HF
  refine sx_y HF HS (yl_move rfl) rfl rfl ?_; clear HF ac; intro ac HF
  refine sx_y HF HS (yl_move rfl) rfl rfl ?_; clear HF ac; intro ac HF
  refine sx_y HF HS (yl_nePtr Tryd.underlying25 rfl rfl (by exact rfl)) rfl rfl ?_; clear HF ac; intro ac HF
  refine sx_y HF HS (yl_pick (b := true) rfl rfl) rfl rfl ?_; clear HF ac; intro ac HF
  refine sx_y HF HS (yl_move rfl) rfl rfl ?_; clear HF ac; intro ac HF
  refine sx_y HF HS (yl_move rfl) rfl rfl ?_; clear HF ac; intro ac HF
  refine sx_y HF HS (yl_move rfl) rfl rfl ?_; clear HF ac; intro ac HF
  have hne : g ≠ g2 := by
    have hnd := HS.nd
    simp [ids] at hnd
    omega
  refine sx_call HF Tryd.func29 (by kernel_rfl) (by kernel_rfl) (evs_cons rfl (evs_cons rfl evs_nil)) (equal9_any g n ps a1 c1 g2 n ps a2 c2 w ⟨HS.blk _ (List.mem_cons_of_mem _ List.mem_cons_self), HS.row _ (List.mem_cons_of_mem _ List.mem_cons_self)⟩ ⟨HS.blk _ List.mem_cons_self, HS.row _ List.mem_cons_self⟩ hne) rfl rfl ?_; clear HF ac
  rintro _ w ⟨rfl, k1⟩
  rw [decide_eq_true (And.intro rfl rfl)]
  refine ⟨_, rfl, fun ac HF => ?_⟩
  replace HS := HS.call k1
  clear k1
  refine sx_y HF HS (yl_pick (b := true) rfl rfl) rfl rfl ?_; clear HF ac; intro ac HF
  refine sx_y HF HS (yl_move rfl) rfl rfl ?_; clear HF ac; intro ac HF
  refine sx_call HF Tryd.func15 (by kernel_rfl) (by kernel_rfl) evs_nil (awake9_any w (hT.below HS.kp) (hL.below HS.kp) (Nat.le_trans h2 HS.kp.size)) rfl rfl ?_; clear HF ac
  rintro _ w ⟨rfl, k1⟩
  refine ⟨_, rfl, fun ac HF => ?_⟩
  replace HS := HS.call k1
  clear k1
  refine sx_y HF HS (yl_pick (b := true) rfl rfl) rfl rfl ?_; clear HF ac; intro ac HF
  refine sx_y HF HS (yl_assign rfl) rfl rfl ?_; clear HF ac; intro ac HF
  refine wpList_nil ?_
  refine then_n ?_
  refine wp_ret ?_
  refine then_r ?_
  exact rt1 rfl HF HS rfl ⟨rfl, HS.kp⟩

set_option maxRecDepth 100000 in
theorem walk_c (n : Nat) (pks more : List Hsh) (a b : Option Addr) (c e : Nat) (w0 : World) (hr : Rd w0 a pks.length c 32 (hsc pks)) (hm : Rd w0 b more.length e 32 (hsc more)) (hn : n ≤ 1048576) (hpk : 64 ≤ pks.length) (hml : more.length ≤ 40) (h : n + more.length ≤ 1048576) (hT : Tab w0) (hL : Laid w0) (h2 : 4 ≤ w0.heap.size) :
    Calls Tryd.prog 5 #[.int .i64 (n : Int), .slice a pks.length c, .slice b more.length e] w0 fun e w' => e = .returned (.bool true) ∧ Kp [] w0 w' := by
  have hlm := hr.lim
  have hpb := pop_bits 21 n (by omega)
  obtain ⟨ps, hps⟩ : ∃ x, x = pks.take (pop n) := ⟨_, rfl⟩
  have hpl : ps.length = pop n := by rw [hps, List.length_take]; omega
  have hrp : Rd w0 a ps.length c 32 (hsc ps) := by rw [hps]; exact hr.takeH (pop n) (by omega)
  have hbl := rgB_len n ps
  obtain ⟨q1, q2⟩ := parse_bytes n ps hn (by omega)
  have hpS : (pS (rgB n ps)).1 = (n : Int) := by rw [q1]
  have hpH : (pH (rgB n ps)).1 = ps := by rw [q2]
  have hpO : pOk (rgB n ps) = true := by unfold pOk; rw [q1, q2]; simp [isDone, hpl]
  refine calls_st (F := []) (args := [.int .i64 (n : Int), .slice a pks.length c, .slice b more.length e]) Tryd.func5 rfl (n := 94) rfl rfl ?_
  intro ac w HF HS
  refine wp_seq ?_
  refine wp_region_lit ?_
  refine sx_y HF HS (yl_assign rfl) rfl rfl ?_; clear HF ac; intro ac HF
  refine wpList_nil ?_
  refine then_n ?_
  refine wp_seq ?_
  refine wp_seq ?_
  refine wp_region_lit ?_
  refine sx_y HF HS (yl_move rfl) rfl rfl ?_; clear HF ac; intro ac HF
  refine sx_y HF HS (yl_lss rfl rfl (decide_eq_false (by omega))) rfl rfl ?_; clear HF ac; intro ac HF
  refine sx_y HF HS (yl_move rfl) rfl rfl ?_; clear HF ac; intro ac HF
  refine sx_y HF HS (yl_move rfl) rfl rfl ?_; clear HF ac; intro ac HF
  refine sx_y HF HS (yl_gtr rfl rfl (decide_eq_false (by omega))) rfl rfl ?_; clear HF ac; intro ac HF
  refine sx_y HF HS (yl_pick (b := false) rfl rfl) rfl rfl ?_; clear HF ac; intro ac HF
  refine sx_y HF HS (yl_move rfl) rfl rfl ?_; clear HF ac; intro ac HF
  refine sx_y HF HS (yl_move rfl) rfl rfl ?_; clear HF ac; intro ac HF
  refine sx_y HF HS (yl_len_slice Tryd.underlying22 rfl) rfl rfl ?_; clear HF ac; intro ac HF
  refine sx_y HF HS (yl_lss rfl rfl (decide_eq_false (by omega))) rfl rfl ?_; clear HF ac; intro ac HF
  refine sx_y HF HS (yl_pick (b := false) rfl rfl) rfl rfl ?_; clear HF ac; intro ac HF
  refine sx_y HF HS (yl_move rfl) rfl rfl ?_; clear HF ac; intro ac HF
  refine sx_y HF HS (yl_move rfl) rfl rfl ?_; clear HF ac; intro ac HF
  refine sx_y HF HS (yl_len_slice Tryd.underlying22 rfl) rfl rfl ?_; clear HF ac; intro ac HF
  refine sx_y HF HS (yl_gtr rfl rfl (decide_eq_false (by omega))) rfl rfl ?_; clear HF ac; intro ac HF
  refine sx_y HF HS (yl_pick (b := false) rfl rfl) rfl rfl ?_; clear HF ac; intro ac HF
  refine wpList_nil ?_
  refine then_n ?_
  refine cx_false HF rfl ?_
  refine wp_skip ?_
  refine then_n ?_
  refine wp_seq ?_
  refine wp_region_lit ?_
  refine sx_y HF HS (yl_move rfl) rfl rfl ?_; clear HF ac; intro ac HF
  refine sx_y HF HS (yl_move rfl) rfl rfl ?_; clear HF ac; intro ac HF
  refine sx_y HF HS (yl_move rfl) rfl rfl ?_; clear HF ac; intro ac HF
  refine sx_call HF Tryd.func27 (by kernel_rfl) (by kernel_rfl) (evs_cons rfl evs_nil) (refCount_any n w (by omega)) rfl rfl ?_; clear HF ac
  rintro _ w ⟨rfl, k1⟩
  refine ⟨_, rfl, fun ac HF => ?_⟩
  replace HS := HS.call k1
  clear k1
  refine sx_y HF HS (sl_hi (r := ps.length) Tryd.underlying22 sz33 rfl rfl (by omega) (by omega)) rfl rfl ?_; clear HF ac; intro ac HF
  refine sx_call HF Tryd.func25 (by kernel_rfl) (by kernel_rfl) (evs_cons rfl (evs_cons rfl evs_nil)) (bytes9_any n ps a c w (hrp.below HS.kp) (by omega)) rfl rfl ?_; clear HF ac
  rintro _ w ⟨rfl, k1⟩
  refine ⟨_, rfl, fun ac HF => ?_⟩
  replace HS := HS.call k1
  clear k1
  refine sx_ef HF (ef_strB HS Tryd.underlying9 Tryd.underlying39 Tryd.underlying5 rfl (by omega)) rfl rfl ?_; clear HF HS ac; rintro _ w ac ⟨g35, c35, rfl, HS, hrd35⟩ HF
  refine sx_call HF Tryd.func26 (by kernel_rfl) (by kernel_rfl) (evs_cons rfl evs_nil) (parse9_ok (rgB n ps) (some ⟨g35, 0, none⟩) c35 n w hrd35 (by omega) hpS hpO) rfl rfl ?_; clear HF ac
  rintro _ w ⟨g, a1, c1, rfl, k1⟩
  rw [hpH] at k1
  refine ⟨_, rfl, fun ac HF => ?_⟩
  replace HS : St [] w0 [⟨g, sgA (rgS ((n : Nat) : Int) a1 ps.length c1), 101⟩] [⟨33, 32, a1, ps.length, c1, hsc ps⟩] w := HS.join k1
  clear k1
  refine sx_y HF HS (yl_move rfl) rfl rfl ?_; clear HF ac; intro ac HF
  refine sx_y HF HS (yl_extract rfl rfl) rfl rfl ?_; clear HF ac; intro ac HF
  refine sx_y HF HS (yl_extract rfl rfl) rfl rfl ?_; clear HF ac; intro ac HF
  refine sx_y HF HS (yl_assign rfl) rfl rfl ?_; clear HF ac; intro ac HF
  refine sx_y HF HS (yl_assign rfl) rfl rfl ?_; clear HF ac; intro ac HF
  refine wpList_nil ?_
  refine then_n ?_
  refine wp_seq ?_
  refine wp_seq ?_
  refine wp_region_lit ?_
  refine sx_y HF HS (yl_move rfl) rfl rfl ?_; clear HF ac; intro ac HF
  refine sx_y HF HS (yl_neq rfl rfl (decide_eq_false (by exact (fun h => h rfl)))) rfl rfl ?_; clear HF ac; intro ac HF
  refine sx_y HF HS (yl_move rfl) rfl rfl ?_; clear HF ac; intro ac HF
  refine sx_y HF HS (yl_move rfl) rfl rfl ?_; clear HF ac; intro ac HF
  refine sx_y HF HS (yl_eqPtr Tryd.underlying25 rfl rfl (by exact rfl)) rfl rfl ?_; clear HF ac; intro ac HF
  refine sx_y HF HS (yl_pick (b := false) rfl rfl) rfl rfl ?_; clear HF ac; intro ac HF
  refine wpList_nil ?_
  refine then_n ?_
  refine cx_false HF rfl ?_
  refine wp_skip ?_
  refine then_n ?_
  refine wp_seq ?_
  refine wp_region_lit ?_
  refine sx_y HF HS (yl_move rfl) rfl rfl ?_; clear HF ac; intro ac HF
  refine sx_call HF Tryd.func28 (by kernel_rfl) (by kernel_rfl) (evs_cons rfl evs_nil) (copy9_any g n ps a1 c1 w ⟨HS.blk _ List.mem_cons_self, HS.row _ List.mem_cons_self⟩ (by omega)) rfl rfl ?_; clear HF ac
  rintro _ w ⟨g2, a2, c2, rfl, k1⟩
  refine ⟨_, rfl, fun ac HF => ?_⟩
  replace HS : St [] w0 [⟨g2, sgA (rgS ((n : Nat) : Int) a2 ps.length c2), 101⟩, ⟨g, sgA (rgS ((n : Nat) : Int) a1 ps.length c1), 101⟩] [⟨33, 32, a2, ps.length, c2, hsc ps⟩, ⟨33, 32, a1, ps.length, c1, hsc ps⟩] w := HS.join k1
  clear k1
  refine sx_y HF HS (yl_assign rfl) rfl rfl ?_; clear HF ac; intro ac HF
  refine wpList_nil ?_
  refine then_n ?_
  refine wp_seq ?_
  refine wp_region_lit ?_
  refine sx_y HF HS (yl_move rfl) rfl rfl ?_; clear HF ac; intro ac HF
  refine sx_y HF HS (yl_move rfl) rfl rfl ?_; clear HF ac; intro ac HF
  have hal := appT_len more n ps hpl (by omega)
  have hpb2 := pop_bits 21 (n + more.length) (by omega)
  replace HS := HS.swap.rswap
  have hdis : 0 < more.length → ∀ x ∈ aF b, x ∉ ids [⟨g, sgA (rgS ((n : Nat) : Int) a1 ps.length c1), 101⟩] [⟨33, 32, a1, ps.length, c1, hsc ps⟩] := by
    intro hpos x hx hh
    have hlt := hm.lt (by rw [hsc_length]; omega) x hx
    rcases HS.new x (by simp [ids] at hh ⊢; rcases hh with hh | hh <;> simp [hh]) with h1 | h1
    · omega
    · cases h1
  refine sx_call HF Tryd.func17 (by kernel_rfl) (by kernel_rfl) (evs_cons rfl (evs_cons rfl evs_nil)) (append9_any g n ps more a1 b c1 e w ⟨HS.blk _ List.mem_cons_self, HS.row _ List.mem_cons_self⟩ (hm.below HS.kp) h hpl ((HS.sub (L' := [⟨g, sgA (rgS ((n : Nat) : Int) a1 ps.length c1), 101⟩]) (R' := [⟨33, 32, a1, ps.length, c1, hsc ps⟩]) (List.Sublist.cons_cons _ (List.nil_sublist _)) (List.Sublist.cons_cons _ (List.nil_sublist _))).low (by simp) h2) hdis (hT.below HS.kp) (hL.below HS.kp) (Nat.le_trans h2 HS.kp.size)) rfl rfl ?_; clear HF ac
  rintro _ w ⟨rfl, a9, c9, k1⟩
  refine ⟨_, rfl, fun ac HF => ?_⟩
  replace HS : St [] w0 [⟨g, sgA (rgS ((n + more.length : Nat) : Int) a9 (appT n ps more).length c9), 101⟩, ⟨g2, sgA (rgS ((n : Nat) : Int) a2 ps.length c2), 101⟩] [⟨33, 32, a9, (appT n ps more).length, c9, hsc (appT n ps more)⟩, ⟨33, 32, a2, ps.length, c2, hsc ps⟩] w := St.upd (L1 := [_]) (L := [_]) (R1 := [_]) (R := [_]) HS k1
  clear k1
  refine sx_y HF HS (yl_assign rfl) rfl rfl ?_; clear HF ac; intro ac HF
  refine wpList_nil ?_
  refine then_n ?_
  refine wp_seq ?_
  refine wp_seq ?_
  refine wp_region_lit ?_
  refine sx_y HF HS (yl_move rfl) rfl rfl ?_; clear HF ac; intro ac HF
  refine sx_y HF HS (yl_move rfl) rfl rfl ?_; clear HF ac; intro ac HF
  refine sx_y HF HS (yl_len_slice Tryd.underlying22 rfl) rfl rfl ?_; clear HF ac; intro ac HF
  refine sx_y HF HS (yl_add64 (r := ((n + more.length : Nat) : Int)) rfl rfl (by omega) (by omega)) rfl rfl ?_; clear HF ac; intro ac HF
  refine sx_y HF HS (yl_gtr rfl rfl (decide_eq_false (by omega))) rfl rfl ?_; clear HF ac; intro ac HF
  refine wpList_nil ?_
  refine then_n ?_
  refine cx_false HF rfl ?_
  refine wp_skip ?_
  refine then_n ?_
  refine wp_seq ?_
  refine wp_region_lit ?_
  refine sx_y HF HS (yl_move rfl) rfl rfl ?_; clear HF ac; intro ac HF
  refine sx_y HF HS (yl_eql rfl rfl (decide_eq_true (by exact rfl))) rfl rfl ?_; clear HF ac; intro ac HF
  refine sx_y HF HS (yl_move rfl) rfl rfl ?_; clear HF ac; intro ac HF
  refine sx_y HF HS (yl_move rfl) rfl rfl ?_; clear HF ac; intro ac HF
  refine sx_call HF Tryd.func20 (by kernel_rfl) (by kernel_rfl) (evs_cons rfl evs_nil) (size9_any g _ _ _ _ w (HS.blk _ List.mem_cons_self)) rfl rfl ?_; clear HF ac
  rintro _ w ⟨rfl, k1⟩
  refine ⟨_, rfl, fun ac HF => ?_⟩
  replace HS := HS.call k1
  clear k1
  refine sx_y HF HS (yl_move rfl) rfl rfl ?_; clear HF ac; intro ac HF
  refine sx_y HF HS (yl_move rfl) rfl rfl ?_; clear HF ac; intro ac HF
  refine sx_y HF HS (yl_len_slice Tryd.underlying22 rfl) rfl rfl ?_; clear HF ac; intro ac HF
  refine sx_y HF HS (yl_add64 (r := ((n + more.length : Nat) : Int)) rfl rfl (by omega) (by omega)) rfl rfl ?_; clear HF ac; intro ac HF
  refine sx_y HF HS (yl_eql rfl rfl (decide_eq_true (by exact rfl))) rfl rfl ?_; clear HF ac; intro ac HF
  refine sx_y HF HS (yl_pick (b := true) rfl rfl) rfl rfl ?_; clear HF ac; intro ac HF
  refine sx_y HF HS (yl_move rfl) rfl rfl ?_; clear HF ac; intro ac HF
  refine sx_y HF HS (yl_move rfl) rfl rfl ?_; clear HF ac; intro ac HF
  refine sx_call HF Tryd.func22 (by kernel_rfl) (by kernel_rfl) (evs_cons rfl evs_nil) (peaks9_any g (n + more.length) (appT n ps more) a9 c9 w ⟨HS.blk _ List.mem_cons_self, HS.row _ List.mem_cons_self⟩ (by omega)) rfl rfl ?_; clear HF ac
  rintro _ w ⟨a82, c82, rfl, k1⟩
  refine ⟨_, rfl, fun ac HF => ?_⟩
  replace HS := HS.joinR1 k1
  clear k1
  refine sx_y HF HS (yl_len_slice Tryd.underlying22 rfl) rfl rfl ?_; clear HF ac; intro ac HF
  refine sx_y HF HS (yl_move rfl) rfl rfl ?_; clear HF ac; intro ac HF
  refine sx_y HF HS (yl_move rfl) rfl rfl ?_; clear HF ac; intro ac HF
  refine sx_y HF HS (yl_len_slice Tryd.underlying22 rfl) rfl rfl ?_; clear HF ac; intro ac HF
  refine sx_y HF HS (yl_add64 (r := ((n + more.length : Nat) : Int)) rfl rfl (by omega) (by omega)) rfl rfl ?_; clear HF ac; intro ac HF
  refine sx_call HF Tryd.func27 (by kernel_rfl) (by kernel_rfl) (evs_cons rfl evs_nil) (refCount_any (n + more.length) w (by omega)) rfl rfl ?_; clear HF ac
  rintro _ w ⟨rfl, k1⟩
  refine ⟨_, rfl, fun ac HF => ?_⟩
  replace HS := HS.call k1
  clear k1
  refine sx_y HF HS (yl_eql rfl rfl (decide_eq_true (by omega))) rfl rfl ?_; clear HF ac; intro ac HF
  refine sx_y HF HS (yl_pick (b := true) rfl rfl) rfl rfl ?_; clear HF ac; intro ac HF
  refine sx_y HF HS (yl_move rfl) rfl rfl ?_; clear HF ac; intro ac HF
  refine sx_call HF Tryd.func15 (by kernel_rfl) (by kernel_rfl) evs_nil (awake9_any w (hT.below HS.kp) (hL.below HS.kp) (Nat.le_trans h2 HS.kp.size)) rfl rfl ?_; clear HF ac
  rintro _ w ⟨rfl, k1⟩
  refine ⟨_, rfl, fun ac HF => ?_⟩
  replace HS := HS.call k1
  clear k1
  refine sx_y HF HS (yl_pick (b := true) rfl rfl) rfl rfl ?_; clear HF ac; intro ac HF
  refine sx_y HF HS (yl_assign rfl) rfl rfl ?_; clear HF ac; intro ac HF
  refine wpList_nil ?_
  refine then_n ?_
  refine wp_ret ?_
  exact rt1 rfl HF HS rfl ⟨rfl, HS.kp⟩

theorem walk (N : Int) (pks more : List Hsh) (a b : Option Addr) (c e : Nat) (w0 : World) (hr : Rd w0 a pks.length c 32 (hsc pks)) (hm : Rd w0 b more.length e 32 (hsc more)) (hT : Tab w0) (hL : Laid w0) (h2 : 4 ≤ w0.heap.size) :
    Calls Tryd.prog 5 #[.int .i64 N, .slice a pks.length c, .slice b more.length e] w0 fun e w' => e = .returned (.bool true) ∧ Kp [] w0 w' := by
  by_cases h : N < 0 ∨ 1048576 < N ∨ pks.length < 64 ∨ 40 < more.length
  · exact walk_a N pks more a b c e w0 hr hm h hT hL h2
  · obtain ⟨n, rfl⟩ : ∃ n : Nat, N = n := ⟨N.toNat, by omega⟩
    by_cases h' : 1048576 < n + more.length
    · exact walk_b n pks more a b c e w0 hr hm (by omega) (by omega) (by omega) h' hT hL h2
    · exact walk_c n pks more a b c e w0 hr hm (by omega) (by omega) (by omega) (by omega) hT hL h2

end Go.Proofs.YtalnkhgonfcabaaDoor.compactFull
