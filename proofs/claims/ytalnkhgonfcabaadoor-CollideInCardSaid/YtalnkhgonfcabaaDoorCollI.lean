/-
  CollideIn: its walks. (Printed by sx_collin.py.)
-/
import Derived.Test.YtalnkhgonfcabaaDoorColl7
import Derived.Test.YtalnkhgonfcabaaDoorPrf12
namespace Go.Proofs.YtalnkhgonfcabaaDoor.collideIn
open Go.RowKit Go.ChangeShapes Go.WideShapes Go.ChangeAt Go.Proofs.YtalnkhgonfcabaaDoor

/-! ### Types -/
namespace CollI
theorem ag82 : AgT Tryd.prog 82 4 := AgT.mk' Tryd.underlying82 rfl (by kernel_rfl)
theorem ag85 : AgT Tryd.prog 85 2 := AgT.mk' Tryd.underlying85 rfl (by kernel_rfl)
theorem fd82x0 : FdT Tryd.prog 82 0 0 := FdT.mk' (k := 0) Tryd.underlying82 (by kernel_rfl)
theorem fd82x1 : FdT Tryd.prog 82 1 1 := FdT.mk' (k := 0) Tryd.underlying82 (by kernel_rfl)
theorem fd82x2 : FdT Tryd.prog 82 2 2 := FdT.mk' (k := 0) Tryd.underlying82 (by kernel_rfl)
theorem fd82x3 : FdT Tryd.prog 82 3 3 := FdT.mk' (k := 0) Tryd.underlying82 (by kernel_rfl)
theorem sc3 : ScT Tryd.prog 3 := ScT.mk' Tryd.underlying3 rfl (by kernel_rfl)
theorem sc22 : ScT Tryd.prog 22 := ScT.mk' Tryd.underlying22 rfl (by kernel_rfl)
theorem sc39 : ScT Tryd.prog 39 := ScT.mk' Tryd.underlying39 rfl (by kernel_rfl)
theorem sz39 : (Tryd.prog.info? 39).map (·.size) = some 1 := by kernel_rfl
theorem sz85 : (Tryd.prog.info? 85).map (·.size) = some 2 := by kernel_rfl
theorem ze85 : ZeS Tryd.prog 85 [(1, .slice none 0 0), (1, .slice none 0 0)] := ⟨.agg _, ZeT.mk' (by kernel_rfl), rfl⟩
end CollI
open Go.Proofs.YtalnkhgonfcabaaDoor.collideIn.CollI

theorem reads_claim {H : Type} {enc : TypeId × Value → H} {W : World} {cs : List Value} (h : Reads enc Tryd.prog W 82 cs) :
    ∃ I N a c l b e p, cs = [.int .i64 I, .int .i64 N, .slice a (l : List UInt8).length c, .slice b (p : List Hsh).length e] ∧ I64 I ∧ I64 N ∧ Rd W a l.length c 1 (bcs l) ∧ Rd W b p.length e 32 (hsc p) := by
  obtain ⟨hl, hf⟩ := reads_fields Tryd.underlying82 h
  have c4 : Tryd.prog.cellsOf 82 = 4 := by kernel_rfl
  have c1 : Tryd.prog.cellsOf 3 = 1 := by kernel_rfl
  have c32 : Tryd.prog.cellsOf 33 = 32 := by kernel_rfl
  have csl : Tryd.prog.cellsOf 22 = 1 := by kernel_rfl
  have csb : Tryd.prog.cellsOf 39 = 1 := by kernel_rfl
  have cu : Tryd.prog.cellsOf 5 = 1 := by kernel_rfl
  have f0 : Reads enc Tryd.prog W 3 ((cs.drop 0).take (Tryd.prog.cellsOf 3)) := hf 0 _ rfl
  have f1 : Reads enc Tryd.prog W 3 ((cs.drop 1).take (Tryd.prog.cellsOf 3)) := hf 1 _ rfl
  have f2 : Reads enc Tryd.prog W 39 ((cs.drop 2).take (Tryd.prog.cellsOf 39)) := hf 2 _ rfl
  have f3 : Reads enc Tryd.prog W 22 ((cs.drop 3).take (Tryd.prog.cellsOf 22)) := hf 3 _ rfl
  rw [c1] at f0 f1
  rw [csb] at f2
  rw [csl] at f3
  rw [c4] at hl
  obtain ⟨n0, e0, w0⟩ := reads_int Tryd.underlying3 f0
  obtain ⟨n1, e1, w1⟩ := reads_int Tryd.underlying3 f1
  obtain ⟨a2, c2, l2, e2, r2⟩ := reads_bytes Tryd.underlying39 Tryd.underlying5 cu f2
  obtain ⟨a3, c3, l3, e3, r3⟩ := reads_hashes Tryd.underlying22 Tryd.underlying33 Tryd.underlying5 cu c32 f3
  refine ⟨n0, n1, a2, c2, l2, a3, c3, l3, ?_, bounds_i64 w0, bounds_i64 w1, r2, r3⟩
  have s3 : (cs.drop 3).take 1 = cs.drop 3 := List.take_of_length_le (by rw [List.length_drop]; omega)
  have es : cs = cs.take 1 ++ ((cs.drop 1).take 1 ++ ((cs.drop 2).take 1 ++ cs.drop 3)) := by
    have t2 : (cs.drop 2).take 1 ++ cs.drop 3 = cs.drop 2 := by
      have := List.take_append_drop 1 (cs.drop 2); rwa [List.drop_drop] at this
    have t1 : (cs.drop 1).take 1 ++ cs.drop 2 = cs.drop 1 := by
      have := List.take_append_drop 1 (cs.drop 1); rwa [List.drop_drop] at this
    rw [t2, t1, List.take_append_drop]
  rw [List.drop_zero] at e0
  rw [es, e0, e1, e2, ← s3, e3]; rfl
theorem yl_neB {P : Program} {S : World → Prop} {m : List (Nat × Value)} {x y : Operand} {t : TypeId} (hu : P.underlying t = some .bool) {p q b : Bool} (hx : ev m x = some (.bool p)) (hy : ev m y = some (.bool q)) (h : decide (p ≠ q) = b) : Yl P S (.binOp .neq t x y t) m (.bool b) :=
  yl_bin hx hy fun w _ => by
    rw [← h]
    have h1 := run_equal_bool (P := P) w t p q hu
    have h2 : (!(p == q)) = decide (p ≠ q) := by cases p <;> cases q <;> rfl
    simp [eqGuard, binOp, h1, h2]

set_option maxRecDepth 100000 in
theorem walk_a (l : List Pt) (ys : List UInt8) (ps : List Hsh) (a v v2 : Option Addr) (c k k2 : Nat) (s i : Int) (w0 : World) (hr : Rd w0 a l.length c 1 (pts l)) (hp : ∀ p ∈ l, Rd w0 p.a p.l.length p.c 1 (bcs p.l)) (hy : Rd w0 v ys.length k 1 (bcs ys)) (hps : Rd w0 v2 ps.length k2 32 (hsc ps)) (hb : smallB l = false) (hL : Laid w0) (h2 : 4 ≤ w0.heap.size) :
    Calls Tryd.prog 12 #[.slice a l.length c, .agg (sgA (clS s i v ys.length k v2 ps.length k2))] w0 fun e w' => e = .returned (.bool true) ∧ Kp [] w0 w' := by
  refine calls_st (F := []) (args := [.slice a l.length c, .agg (sgA (clS s i v ys.length k v2 ps.length k2))]) Tryd.func12 rfl (n := 105) rfl rfl ?_
  intro ac w HF HS
  refine wp_seq ?_
  refine wp_region_lit ?_
  refine sx_ef HF (ef_boxs HS rfl) rfl rfl ?_; clear HF HS ac; rintro _ w ac ⟨g3, rfl, HS⟩ HF
  refine sx_y HF HS (yl_assign rfl) rfl rfl ?_; clear HF ac; intro ac HF
  refine wpList_nil ?_
  refine then_n ?_
  refine wp_seq ?_
  refine wp_seq ?_
  refine wp_region_lit ?_
  refine sx_y HF HS (yl_move rfl) rfl rfl ?_; clear HF ac; intro ac HF
  refine sx_call HF Tryd.func56 (by kernel_rfl) (by kernel_rfl) (evs_cons rfl evs_nil) (small10_any l a c w (hr.below HS.kp) (fun p hm => (hp p hm).below HS.kp)) rfl rfl ?_; clear HF ac
  rintro _ w ⟨rfl, k1⟩
  rw [hb]
  refine ⟨_, rfl, fun ac HF => ?_⟩
  replace HS := HS.call k1
  clear k1
  refine sx_y HF HS (yl_not rfl) rfl rfl ?_; clear HF ac; intro ac HF
  refine sx_y HF HS (yl_move rfl) rfl rfl ?_; clear HF ac; intro ac HF
  refine sx_off HF rfl rfl ?_; clear HF ac; intro ac HF
  refine sx_off HF rfl rfl ?_; clear HF ac; intro ac HF
  refine sx_off HF rfl rfl ?_; clear HF ac; intro ac HF
  refine sx_off HF rfl rfl ?_; clear HF ac; intro ac HF
  refine sx_y HF HS (yl_pick (b := true) rfl rfl) rfl rfl ?_; clear HF ac; intro ac HF
  refine sx_y HF HS (yl_move rfl) rfl rfl ?_; clear HF ac; intro ac HF
  refine sx_off HF rfl rfl ?_; clear HF ac; intro ac HF
  refine sx_off HF rfl rfl ?_; clear HF ac; intro ac HF
  refine sx_off HF rfl rfl ?_; clear HF ac; intro ac HF
  refine sx_off HF rfl rfl ?_; clear HF ac; intro ac HF
  refine sx_y HF HS (yl_pick (b := true) rfl rfl) rfl rfl ?_; clear HF ac; intro ac HF
  refine wpList_nil ?_
  refine then_n ?_
  refine cx_true HF rfl ?_
  refine wp_seq ?_
  refine wp_region_lit ?_
  refine sx_call HF Tryd.func57 (by kernel_rfl) (by kernel_rfl) evs_nil (awake10_any w (hL.below HS.kp) (Nat.le_trans h2 HS.kp.size)) rfl rfl ?_; clear HF ac
  rintro _ w ⟨rfl, k1⟩
  refine ⟨_, rfl, fun ac HF => ?_⟩
  replace HS := HS.call k1
  clear k1
  refine sx_y HF HS (yl_assign rfl) rfl rfl ?_; clear HF ac; intro ac HF
  refine wpList_nil ?_
  refine then_n ?_
  refine wp_ret ?_
  refine then_r ?_
  exact rt1 rfl HF HS rfl ⟨rfl, HS.kp⟩

set_option maxRecDepth 100000 in
theorem walk_b (l : List Pt) (ys : List UInt8) (ps : List Hsh) (a v v2 : Option Addr) (c k k2 : Nat) (s i : Int) (w0 : World) (hr : Rd w0 a l.length c 1 (pts l)) (hp : ∀ p ∈ l, Rd w0 p.a p.l.length p.c 1 (bcs p.l)) (hy : Rd w0 v ys.length k 1 (bcs ys)) (hps : Rd w0 v2 ps.length k2 32 (hsc ps)) (hb : smallB l = true) (h : s ≠ (l.length : Int) ∨ i < 0 ∨ s ≤ i) (hL : Laid w0) (h2 : 4 ≤ w0.heap.size) :
    Calls Tryd.prog 12 #[.slice a l.length c, .agg (sgA (clS s i v ys.length k v2 ps.length k2))] w0 fun e w' => e = .returned (.bool true) ∧ Kp [] w0 w' := by
  obtain ⟨hsl, hll⟩ := smallB_is hb
  have hp2 : ∀ p ∈ l, Rd w0 p.a p.l.length p.c 1 (bcs p.l) ∧ p.l.length ≤ 1099511627775 := fun p hm => ⟨hp p hm, by have := hsl p hm; omega⟩
  refine calls_st (F := []) (args := [.slice a l.length c, .agg (sgA (clS s i v ys.length k v2 ps.length k2))]) Tryd.func12 rfl (n := 105) rfl rfl ?_
  intro ac w HF HS
  refine wp_seq ?_
  refine wp_region_lit ?_
  refine sx_ef HF (ef_boxs HS rfl) rfl rfl ?_; clear HF HS ac; rintro _ w ac ⟨g3, rfl, HS⟩ HF
  refine sx_y HF HS (yl_assign rfl) rfl rfl ?_; clear HF ac; intro ac HF
  refine wpList_nil ?_
  refine then_n ?_
  refine wp_seq ?_
  refine wp_seq ?_
  refine wp_region_lit ?_
  refine sx_y HF HS (yl_move rfl) rfl rfl ?_; clear HF ac; intro ac HF
  refine sx_call HF Tryd.func56 (by kernel_rfl) (by kernel_rfl) (evs_cons rfl evs_nil) (small10_any l a c w (hr.below HS.kp) (fun p hm => (hp p hm).below HS.kp)) rfl rfl ?_; clear HF ac
  rintro _ w ⟨rfl, k1⟩
  rw [hb]
  refine ⟨_, rfl, fun ac HF => ?_⟩
  replace HS := HS.call k1
  clear k1
  refine sx_y HF HS (yl_not rfl) rfl rfl ?_; clear HF ac; intro ac HF
  refine sx_y HF HS (yl_move rfl) rfl rfl ?_; clear HF ac; intro ac HF
  refine sx_y HF HS (fa_st fd82x2 rfl) rfl rfl ?_; clear HF ac; intro ac HF
  refine sx_y HF HS (ld_sc sc39 rfl rfl rfl) rfl rfl ?_; clear HF ac; intro ac HF
  refine sx_y HF HS (yl_len_slice Tryd.underlying39 rfl) rfl rfl ?_; clear HF ac; intro ac HF
  refine sx_dec HF HS (yl_gtr rfl rfl rfl) rfl rfl ?_ ?_ <;> clear HF ac <;> intro h1x7 ac HF
  · refine sx_y HF HS (yl_pick (b := false) rfl rfl) rfl rfl ?_; clear HF ac; intro ac HF
    refine sx_y HF HS (yl_move rfl) rfl rfl ?_; clear HF ac; intro ac HF
    refine sx_off HF rfl rfl ?_; clear HF ac; intro ac HF
    refine sx_off HF rfl rfl ?_; clear HF ac; intro ac HF
    refine sx_off HF rfl rfl ?_; clear HF ac; intro ac HF
    refine sx_off HF rfl rfl ?_; clear HF ac; intro ac HF
    refine sx_y HF HS (yl_pick (b := true) rfl rfl) rfl rfl ?_; clear HF ac; intro ac HF
    refine wpList_nil ?_
    refine then_n ?_
    refine cx_true HF rfl ?_
    refine wp_seq ?_
    refine wp_region_lit ?_
    refine sx_call HF Tryd.func57 (by kernel_rfl) (by kernel_rfl) evs_nil (awake10_any w (hL.below HS.kp) (Nat.le_trans h2 HS.kp.size)) rfl rfl ?_; clear HF ac
    rintro _ w ⟨rfl, k1⟩
    refine ⟨_, rfl, fun ac HF => ?_⟩
    replace HS := HS.call k1
    clear k1
    refine sx_y HF HS (yl_assign rfl) rfl rfl ?_; clear HF ac; intro ac HF
    refine wpList_nil ?_
    refine then_n ?_
    refine wp_ret ?_
    refine then_r ?_
    exact rt1 rfl HF HS rfl ⟨rfl, HS.kp⟩
  · refine sx_y HF HS (yl_pick (b := false) rfl rfl) rfl rfl ?_; clear HF ac; intro ac HF
    refine sx_y HF HS (yl_move rfl) rfl rfl ?_; clear HF ac; intro ac HF
    refine sx_y HF HS (fa_st fd82x3 rfl) rfl rfl ?_; clear HF ac; intro ac HF
    refine sx_y HF HS (ld_sc sc22 rfl rfl rfl) rfl rfl ?_; clear HF ac; intro ac HF
    refine sx_y HF HS (yl_len_slice Tryd.underlying22 rfl) rfl rfl ?_; clear HF ac; intro ac HF
    refine sx_dec HF HS (yl_gtr rfl rfl rfl) rfl rfl ?_ ?_ <;> clear HF ac <;> intro h1x13 ac HF
    · refine sx_y HF HS (yl_pick (b := false) rfl rfl) rfl rfl ?_; clear HF ac; intro ac HF
      refine wpList_nil ?_
      refine then_n ?_
      refine cx_true HF rfl ?_
      refine wp_seq ?_
      refine wp_region_lit ?_
      refine sx_call HF Tryd.func57 (by kernel_rfl) (by kernel_rfl) evs_nil (awake10_any w (hL.below HS.kp) (Nat.le_trans h2 HS.kp.size)) rfl rfl ?_; clear HF ac
      rintro _ w ⟨rfl, k1⟩
      refine ⟨_, rfl, fun ac HF => ?_⟩
      replace HS := HS.call k1
      clear k1
      refine sx_y HF HS (yl_assign rfl) rfl rfl ?_; clear HF ac; intro ac HF
      refine wpList_nil ?_
      refine then_n ?_
      refine wp_ret ?_
      refine then_r ?_
      exact rt1 rfl HF HS rfl ⟨rfl, HS.kp⟩
    · refine sx_y HF HS (yl_pick (b := false) rfl rfl) rfl rfl ?_; clear HF ac; intro ac HF
      refine wpList_nil ?_
      refine then_n ?_
      refine cx_false HF rfl ?_
      refine wp_skip ?_
      refine then_n ?_
      refine wp_seq ?_
      refine wp_region_lit ?_
      refine sx_y HF HS (yl_move rfl) rfl rfl ?_; clear HF ac; intro ac HF
      refine sx_y HF HS (ld_all ag82 rfl rfl) rfl rfl ?_; clear HF ac; intro ac HF
      refine sx_call HF Tryd.func58 (by kernel_rfl) (by kernel_rfl) (evs_cons rfl (evs_cons rfl evs_nil)) (in_range s i v ys.length k v2 ps.length k2 a l.length c w h) rfl rfl ?_; clear HF ac
      rintro _ w ⟨rfl, k1⟩
      refine ⟨_, rfl, fun ac HF => ?_⟩
      replace HS := HS.call k1
      clear k1
      refine sx_y HF HS (yl_move rfl) rfl rfl ?_; clear HF ac; intro ac HF
      refine sx_y HF HS (yl_extract rfl rfl) rfl rfl ?_; clear HF ac; intro ac HF
      refine sx_y HF HS (yl_extract rfl rfl) rfl rfl ?_; clear HF ac; intro ac HF
      refine sx_y HF HS (yl_extract rfl rfl) rfl rfl ?_; clear HF ac; intro ac HF
      refine sx_ef HF (ef_alloc HS ze85) rfl rfl ?_; clear HF HS ac; rintro _ w ac ⟨g5, rfl, HS⟩ HF
      refine sx_ef0 HF (ef_stores HS sz85 rfl rfl rfl rfl) rfl ?_; clear HS; rintro _ w HS
      refine sx_y HF HS (yl_assign rfl) rfl rfl ?_; clear HF ac; intro ac HF
      refine sx_y HF HS (yl_assign rfl) rfl rfl ?_; clear HF ac; intro ac HF
      refine wpList_nil ?_
      refine then_n ?_
      refine wp_seq ?_
      refine wp_seq ?_
      refine wp_region_lit ?_
      refine sx_y HF HS (fa_st fd82x1 rfl) rfl rfl ?_; clear HF ac; intro ac HF
      refine sx_y HF HS (ld_sc sc3 rfl rfl rfl) rfl rfl ?_; clear HF ac; intro ac HF
      refine sx_y HF HS (yl_move rfl) rfl rfl ?_; clear HF ac; intro ac HF
      refine sx_y HF HS (yl_len_slice Tryd.underlying61 rfl) rfl rfl ?_; clear HF ac; intro ac HF
      refine sx_dec HF HS (yl_neq rfl rfl rfl) rfl rfl ?_ ?_ <;> clear HF ac <;> intro h4x4 ac HF
      · refine sx_y HF HS (yl_move rfl) rfl rfl ?_; clear HF ac; intro ac HF
        refine sx_off HF rfl rfl ?_; clear HF ac; intro ac HF
        refine sx_off HF rfl rfl ?_; clear HF ac; intro ac HF
        refine sx_off HF rfl rfl ?_; clear HF ac; intro ac HF
        refine sx_y HF HS (yl_pick (b := true) rfl rfl) rfl rfl ?_; clear HF ac; intro ac HF
        refine sx_y HF HS (yl_move rfl) rfl rfl ?_; clear HF ac; intro ac HF
        refine sx_off HF rfl rfl ?_; clear HF ac; intro ac HF
        refine sx_off HF rfl rfl ?_; clear HF ac; intro ac HF
        refine sx_off HF rfl rfl ?_; clear HF ac; intro ac HF
        refine sx_off HF rfl rfl ?_; clear HF ac; intro ac HF
        refine sx_off HF rfl rfl ?_; clear HF ac; intro ac HF
        refine sx_y HF HS (yl_pick (b := true) rfl rfl) rfl rfl ?_; clear HF ac; intro ac HF
        refine wpList_nil ?_
        refine then_n ?_
        refine cx_true HF rfl ?_
        refine wp_seq ?_
        refine wp_region_lit ?_
        refine sx_y HF HS (yl_move rfl) rfl rfl ?_; clear HF ac; intro ac HF
        refine sx_y HF HS (yl_eql rfl rfl (decide_eq_true (by exact rfl))) rfl rfl ?_; clear HF ac; intro ac HF
        refine sx_y HF HS (yl_move rfl) rfl rfl ?_; clear HF ac; intro ac HF
        refine sx_y HF HS (yl_move rfl) rfl rfl ?_; clear HF ac; intro ac HF
        refine sx_y HF HS (yl_not rfl) rfl rfl ?_; clear HF ac; intro ac HF
        refine sx_y HF HS (yl_pick (b := true) rfl rfl) rfl rfl ?_; clear HF ac; intro ac HF
        refine sx_y HF HS (yl_move rfl) rfl rfl ?_; clear HF ac; intro ac HF
        refine sx_call HF Tryd.func57 (by kernel_rfl) (by kernel_rfl) evs_nil (awake10_any w (hL.below HS.kp) (Nat.le_trans h2 HS.kp.size)) rfl rfl ?_; clear HF ac
        rintro _ w ⟨rfl, k1⟩
        refine ⟨_, rfl, fun ac HF => ?_⟩
        replace HS := HS.call k1
        clear k1
        refine sx_y HF HS (yl_pick (b := true) rfl rfl) rfl rfl ?_; clear HF ac; intro ac HF
        refine sx_y HF HS (yl_assign rfl) rfl rfl ?_; clear HF ac; intro ac HF
        refine wpList_nil ?_
        refine then_n ?_
        refine wp_ret ?_
        refine then_r ?_
        exact rt1 rfl HF HS rfl ⟨rfl, HS.kp⟩
      · refine sx_y HF HS (yl_move rfl) rfl rfl ?_; clear HF ac; intro ac HF
        refine sx_y HF HS (fa_st fd82x0 rfl) rfl rfl ?_; clear HF ac; intro ac HF
        refine sx_y HF HS (ld_sc sc3 rfl rfl rfl) rfl rfl ?_; clear HF ac; intro ac HF
        refine sx_dec HF HS (yl_lss rfl rfl rfl) rfl rfl ?_ ?_ <;> clear HF ac <;> intro h4x8 ac HF
        · refine sx_y HF HS (yl_pick (b := false) rfl rfl) rfl rfl ?_; clear HF ac; intro ac HF
          refine sx_y HF HS (yl_move rfl) rfl rfl ?_; clear HF ac; intro ac HF
          refine sx_off HF rfl rfl ?_; clear HF ac; intro ac HF
          refine sx_off HF rfl rfl ?_; clear HF ac; intro ac HF
          refine sx_off HF rfl rfl ?_; clear HF ac; intro ac HF
          refine sx_off HF rfl rfl ?_; clear HF ac; intro ac HF
          refine sx_off HF rfl rfl ?_; clear HF ac; intro ac HF
          refine sx_y HF HS (yl_pick (b := true) rfl rfl) rfl rfl ?_; clear HF ac; intro ac HF
          refine wpList_nil ?_
          refine then_n ?_
          refine cx_true HF rfl ?_
          refine wp_seq ?_
          refine wp_region_lit ?_
          refine sx_y HF HS (yl_move rfl) rfl rfl ?_; clear HF ac; intro ac HF
          refine sx_y HF HS (yl_eql rfl rfl (decide_eq_true (by exact rfl))) rfl rfl ?_; clear HF ac; intro ac HF
          refine sx_y HF HS (yl_move rfl) rfl rfl ?_; clear HF ac; intro ac HF
          refine sx_y HF HS (yl_move rfl) rfl rfl ?_; clear HF ac; intro ac HF
          refine sx_y HF HS (yl_not rfl) rfl rfl ?_; clear HF ac; intro ac HF
          refine sx_y HF HS (yl_pick (b := true) rfl rfl) rfl rfl ?_; clear HF ac; intro ac HF
          refine sx_y HF HS (yl_move rfl) rfl rfl ?_; clear HF ac; intro ac HF
          refine sx_call HF Tryd.func57 (by kernel_rfl) (by kernel_rfl) evs_nil (awake10_any w (hL.below HS.kp) (Nat.le_trans h2 HS.kp.size)) rfl rfl ?_; clear HF ac
          rintro _ w ⟨rfl, k1⟩
          refine ⟨_, rfl, fun ac HF => ?_⟩
          replace HS := HS.call k1
          clear k1
          refine sx_y HF HS (yl_pick (b := true) rfl rfl) rfl rfl ?_; clear HF ac; intro ac HF
          refine sx_y HF HS (yl_assign rfl) rfl rfl ?_; clear HF ac; intro ac HF
          refine wpList_nil ?_
          refine then_n ?_
          refine wp_ret ?_
          refine then_r ?_
          exact rt1 rfl HF HS rfl ⟨rfl, HS.kp⟩
        · refine sx_y HF HS (yl_pick (b := false) rfl rfl) rfl rfl ?_; clear HF ac; intro ac HF
          refine sx_y HF HS (yl_move rfl) rfl rfl ?_; clear HF ac; intro ac HF
          refine sx_y HF HS (fa_st fd82x0 rfl) rfl rfl ?_; clear HF ac; intro ac HF
          refine sx_y HF HS (ld_sc sc3 rfl rfl rfl) rfl rfl ?_; clear HF ac; intro ac HF
          refine sx_y HF HS (yl_move rfl) rfl rfl ?_; clear HF ac; intro ac HF
          refine sx_y HF HS (yl_len_slice Tryd.underlying61 rfl) rfl rfl ?_; clear HF ac; intro ac HF
          refine sx_dec HF HS (yl_geq rfl rfl rfl) rfl rfl ?_ ?_ <;> clear HF ac <;> intro h4x15 ac HF
          · refine sx_y HF HS (yl_pick (b := false) rfl rfl) rfl rfl ?_; clear HF ac; intro ac HF
            refine wpList_nil ?_
            refine then_n ?_
            refine cx_true HF rfl ?_
            refine wp_seq ?_
            refine wp_region_lit ?_
            refine sx_y HF HS (yl_move rfl) rfl rfl ?_; clear HF ac; intro ac HF
            refine sx_y HF HS (yl_eql rfl rfl (decide_eq_true (by exact rfl))) rfl rfl ?_; clear HF ac; intro ac HF
            refine sx_y HF HS (yl_move rfl) rfl rfl ?_; clear HF ac; intro ac HF
            refine sx_y HF HS (yl_move rfl) rfl rfl ?_; clear HF ac; intro ac HF
            refine sx_y HF HS (yl_not rfl) rfl rfl ?_; clear HF ac; intro ac HF
            refine sx_y HF HS (yl_pick (b := true) rfl rfl) rfl rfl ?_; clear HF ac; intro ac HF
            refine sx_y HF HS (yl_move rfl) rfl rfl ?_; clear HF ac; intro ac HF
            refine sx_call HF Tryd.func57 (by kernel_rfl) (by kernel_rfl) evs_nil (awake10_any w (hL.below HS.kp) (Nat.le_trans h2 HS.kp.size)) rfl rfl ?_; clear HF ac
            rintro _ w ⟨rfl, k1⟩
            refine ⟨_, rfl, fun ac HF => ?_⟩
            replace HS := HS.call k1
            clear k1
            refine sx_y HF HS (yl_pick (b := true) rfl rfl) rfl rfl ?_; clear HF ac; intro ac HF
            refine sx_y HF HS (yl_assign rfl) rfl rfl ?_; clear HF ac; intro ac HF
            refine wpList_nil ?_
            refine then_n ?_
            refine wp_ret ?_
            refine then_r ?_
            exact rt1 rfl HF HS rfl ⟨rfl, HS.kp⟩
          · exact absurd h (by omega)

set_option maxRecDepth 100000 in
theorem walk_c (l : List Pt) (ys : List UInt8) (ps : List Hsh) (a v v2 : Option Addr) (c k k2 : Nat) (i : Nat) (w0 : World) (hr : Rd w0 a l.length c 1 (pts l)) (hp : ∀ p ∈ l, Rd w0 p.a p.l.length p.c 1 (bcs p.l)) (hy : Rd w0 v ys.length k 1 (bcs ys)) (hps : Rd w0 v2 ps.length k2 32 (hsc ps)) (hb : smallB l = true) (x : Pt) (hx : l[i]? = some x) (hv : inV (rootH (leavesH l)) (leadF i (l.length - 1) (leafH ys) ps) = 22) (hL : Laid w0) (h2 : 4 ≤ w0.heap.size) :
    Calls Tryd.prog 12 #[.slice a l.length c, .agg (sgA (clS l.length i v ys.length k v2 ps.length k2))] w0 fun e w' => e = .returned (.bool true) ∧ Kp [] w0 w' := by
  obtain ⟨hsl, hll⟩ := smallB_is hb
  have hp2 : ∀ p ∈ l, Rd w0 p.a p.l.length p.c 1 (bcs p.l) ∧ p.l.length ≤ 1099511627775 := fun p hm => ⟨hp p hm, by have := hsl p hm; omega⟩
  have hil : i < l.length := (List.getElem?_eq_some_iff.1 hx).1
  refine calls_st (F := []) (args := [.slice a l.length c, .agg (sgA (clS l.length i v ys.length k v2 ps.length k2))]) Tryd.func12 rfl (n := 105) rfl rfl ?_
  intro ac w HF HS
  refine wp_seq ?_
  refine wp_region_lit ?_
  refine sx_ef HF (ef_boxs HS rfl) rfl rfl ?_; clear HF HS ac; rintro _ w ac ⟨g3, rfl, HS⟩ HF
  refine sx_y HF HS (yl_assign rfl) rfl rfl ?_; clear HF ac; intro ac HF
  refine wpList_nil ?_
  refine then_n ?_
  refine wp_seq ?_
  refine wp_seq ?_
  refine wp_region_lit ?_
  refine sx_y HF HS (yl_move rfl) rfl rfl ?_; clear HF ac; intro ac HF
  refine sx_call HF Tryd.func56 (by kernel_rfl) (by kernel_rfl) (evs_cons rfl evs_nil) (small10_any l a c w (hr.below HS.kp) (fun p hm => (hp p hm).below HS.kp)) rfl rfl ?_; clear HF ac
  rintro _ w ⟨rfl, k1⟩
  rw [hb]
  refine ⟨_, rfl, fun ac HF => ?_⟩
  replace HS := HS.call k1
  clear k1
  refine sx_y HF HS (yl_not rfl) rfl rfl ?_; clear HF ac; intro ac HF
  refine sx_y HF HS (yl_move rfl) rfl rfl ?_; clear HF ac; intro ac HF
  refine sx_y HF HS (fa_st fd82x2 rfl) rfl rfl ?_; clear HF ac; intro ac HF
  refine sx_y HF HS (ld_sc sc39 rfl rfl rfl) rfl rfl ?_; clear HF ac; intro ac HF
  refine sx_y HF HS (yl_len_slice Tryd.underlying39 rfl) rfl rfl ?_; clear HF ac; intro ac HF
  refine sx_dec HF HS (yl_gtr rfl rfl rfl) rfl rfl ?_ ?_ <;> clear HF ac <;> intro h1x7 ac HF
  · refine sx_y HF HS (yl_pick (b := false) rfl rfl) rfl rfl ?_; clear HF ac; intro ac HF
    refine sx_y HF HS (yl_move rfl) rfl rfl ?_; clear HF ac; intro ac HF
    refine sx_off HF rfl rfl ?_; clear HF ac; intro ac HF
    refine sx_off HF rfl rfl ?_; clear HF ac; intro ac HF
    refine sx_off HF rfl rfl ?_; clear HF ac; intro ac HF
    refine sx_off HF rfl rfl ?_; clear HF ac; intro ac HF
    refine sx_y HF HS (yl_pick (b := true) rfl rfl) rfl rfl ?_; clear HF ac; intro ac HF
    refine wpList_nil ?_
    refine then_n ?_
    refine cx_true HF rfl ?_
    refine wp_seq ?_
    refine wp_region_lit ?_
    refine sx_call HF Tryd.func57 (by kernel_rfl) (by kernel_rfl) evs_nil (awake10_any w (hL.below HS.kp) (Nat.le_trans h2 HS.kp.size)) rfl rfl ?_; clear HF ac
    rintro _ w ⟨rfl, k1⟩
    refine ⟨_, rfl, fun ac HF => ?_⟩
    replace HS := HS.call k1
    clear k1
    refine sx_y HF HS (yl_assign rfl) rfl rfl ?_; clear HF ac; intro ac HF
    refine wpList_nil ?_
    refine then_n ?_
    refine wp_ret ?_
    refine then_r ?_
    exact rt1 rfl HF HS rfl ⟨rfl, HS.kp⟩
  · refine sx_y HF HS (yl_pick (b := false) rfl rfl) rfl rfl ?_; clear HF ac; intro ac HF
    refine sx_y HF HS (yl_move rfl) rfl rfl ?_; clear HF ac; intro ac HF
    refine sx_y HF HS (fa_st fd82x3 rfl) rfl rfl ?_; clear HF ac; intro ac HF
    refine sx_y HF HS (ld_sc sc22 rfl rfl rfl) rfl rfl ?_; clear HF ac; intro ac HF
    refine sx_y HF HS (yl_len_slice Tryd.underlying22 rfl) rfl rfl ?_; clear HF ac; intro ac HF
    refine sx_dec HF HS (yl_gtr rfl rfl rfl) rfl rfl ?_ ?_ <;> clear HF ac <;> intro h1x13 ac HF
    · refine sx_y HF HS (yl_pick (b := false) rfl rfl) rfl rfl ?_; clear HF ac; intro ac HF
      refine wpList_nil ?_
      refine then_n ?_
      refine cx_true HF rfl ?_
      refine wp_seq ?_
      refine wp_region_lit ?_
      refine sx_call HF Tryd.func57 (by kernel_rfl) (by kernel_rfl) evs_nil (awake10_any w (hL.below HS.kp) (Nat.le_trans h2 HS.kp.size)) rfl rfl ?_; clear HF ac
      rintro _ w ⟨rfl, k1⟩
      refine ⟨_, rfl, fun ac HF => ?_⟩
      replace HS := HS.call k1
      clear k1
      refine sx_y HF HS (yl_assign rfl) rfl rfl ?_; clear HF ac; intro ac HF
      refine wpList_nil ?_
      refine then_n ?_
      refine wp_ret ?_
      refine then_r ?_
      exact rt1 rfl HF HS rfl ⟨rfl, HS.kp⟩
    · refine sx_y HF HS (yl_pick (b := false) rfl rfl) rfl rfl ?_; clear HF ac; intro ac HF
      refine wpList_nil ?_
      refine then_n ?_
      refine cx_false HF rfl ?_
      refine wp_skip ?_
      refine then_n ?_
      refine wp_seq ?_
      refine wp_region_lit ?_
      refine sx_y HF HS (yl_move rfl) rfl rfl ?_; clear HF ac; intro ac HF
      refine sx_y HF HS (ld_all ag82 rfl rfl) rfl rfl ?_; clear HF ac; intro ac HF
      refine sx_call HF Tryd.func58 (by kernel_rfl) (by kernel_rfl) (evs_cons rfl (evs_cons rfl evs_nil)) (in_proof l i x ys ps a v v2 c k k2 w (hr.below HS.kp) (fun p hm => ⟨(hp2 p hm).1.below HS.kp, (hp2 p hm).2⟩) (by omega) hx (hy.below HS.kp) (hps.below HS.kp) hv (hL.below HS.kp) (Nat.le_trans h2 HS.kp.size)) rfl rfl ?_; clear HF ac
      rintro _ w ⟨rfl, k1⟩
      refine ⟨_, rfl, fun ac HF => ?_⟩
      replace HS := HS.call k1
      clear k1
      refine sx_y HF HS (yl_move rfl) rfl rfl ?_; clear HF ac; intro ac HF
      refine sx_y HF HS (yl_extract rfl rfl) rfl rfl ?_; clear HF ac; intro ac HF
      refine sx_y HF HS (yl_extract rfl rfl) rfl rfl ?_; clear HF ac; intro ac HF
      refine sx_y HF HS (yl_extract rfl rfl) rfl rfl ?_; clear HF ac; intro ac HF
      refine sx_ef HF (ef_alloc HS ze85) rfl rfl ?_; clear HF HS ac; rintro _ w ac ⟨g5, rfl, HS⟩ HF
      refine sx_ef0 HF (ef_stores HS sz85 rfl rfl rfl rfl) rfl ?_; clear HS; rintro _ w HS
      refine sx_y HF HS (yl_assign rfl) rfl rfl ?_; clear HF ac; intro ac HF
      refine sx_y HF HS (yl_assign rfl) rfl rfl ?_; clear HF ac; intro ac HF
      refine wpList_nil ?_
      refine then_n ?_
      refine wp_seq ?_
      refine wp_seq ?_
      refine wp_region_lit ?_
      refine sx_y HF HS (fa_st fd82x1 rfl) rfl rfl ?_; clear HF ac; intro ac HF
      refine sx_y HF HS (ld_sc sc3 rfl rfl rfl) rfl rfl ?_; clear HF ac; intro ac HF
      refine sx_y HF HS (yl_move rfl) rfl rfl ?_; clear HF ac; intro ac HF
      refine sx_y HF HS (yl_len_slice Tryd.underlying61 rfl) rfl rfl ?_; clear HF ac; intro ac HF
      refine sx_y HF HS (yl_neq rfl rfl (decide_eq_false (by omega))) rfl rfl ?_; clear HF ac; intro ac HF
      refine sx_y HF HS (yl_move rfl) rfl rfl ?_; clear HF ac; intro ac HF
      refine sx_y HF HS (fa_st fd82x0 rfl) rfl rfl ?_; clear HF ac; intro ac HF
      refine sx_y HF HS (ld_sc sc3 rfl rfl rfl) rfl rfl ?_; clear HF ac; intro ac HF
      refine sx_y HF HS (yl_lss rfl rfl (decide_eq_false (by omega))) rfl rfl ?_; clear HF ac; intro ac HF
      refine sx_y HF HS (yl_pick (b := false) rfl rfl) rfl rfl ?_; clear HF ac; intro ac HF
      refine sx_y HF HS (yl_move rfl) rfl rfl ?_; clear HF ac; intro ac HF
      refine sx_y HF HS (fa_st fd82x0 rfl) rfl rfl ?_; clear HF ac; intro ac HF
      refine sx_y HF HS (ld_sc sc3 rfl rfl rfl) rfl rfl ?_; clear HF ac; intro ac HF
      refine sx_y HF HS (yl_move rfl) rfl rfl ?_; clear HF ac; intro ac HF
      refine sx_y HF HS (yl_len_slice Tryd.underlying61 rfl) rfl rfl ?_; clear HF ac; intro ac HF
      refine sx_y HF HS (yl_geq rfl rfl (decide_eq_false (by omega))) rfl rfl ?_; clear HF ac; intro ac HF
      refine sx_y HF HS (yl_pick (b := false) rfl rfl) rfl rfl ?_; clear HF ac; intro ac HF
      refine wpList_nil ?_
      refine then_n ?_
      refine cx_false HF rfl ?_
      refine wp_skip ?_
      refine then_n ?_
      refine wp_seq ?_
      refine wp_seq ?_
      refine dx_region 14 (by kernel_rfl) HS.drew (fun _ h => h) ?_; clear HS; intro w HS
      have HH := HS
      refine dx_p (i := 0) HF rfl (by kernel_rfl) (by kernel_rfl) (by kernel_rfl) (by decide) (fun _ _ _ h => h) (fun _ => HH) (fa_st fd82x2 rfl) rfl rfl ?_; clear HF ac; intro ac HF
      refine dx_k (i := 1) HF rfl (by kernel_rfl) (by kernel_rfl) (by kernel_rfl) (by kernel_rfl) (by kernel_rfl) (fun _ _ _ h => h) HH (ld_sc sc39 rfl rfl rfl) rfl rfl ?_; clear HF ac; intro ac HF
      refine dx_p (i := 3) HF rfl (by kernel_rfl) (by kernel_rfl) (by kernel_rfl) (by decide) (fun _ _ _ h => h) (fun _ => HH) (fa_st fd82x0 rfl) rfl rfl ?_; clear HF ac; intro ac HF
      refine dx_k (i := 4) HF rfl (by kernel_rfl) (by kernel_rfl) (by kernel_rfl) (by kernel_rfl) (by kernel_rfl) (fun _ _ _ h => h) HH (ld_sc sc3 rfl rfl rfl) rfl rfl ?_; clear HF ac; intro ac HF
      refine dx_p (i := 5) HF rfl (by kernel_rfl) (by kernel_rfl) (by kernel_rfl) (by decide) (fun _ _ _ h => h) (fun _ => HH) (fa_st fd82x1 rfl) rfl rfl ?_; clear HF ac; intro ac HF
      refine dx_k (i := 6) HF rfl (by kernel_rfl) (by kernel_rfl) (by kernel_rfl) (by kernel_rfl) (by kernel_rfl) (fun _ _ _ h => h) HH (ld_sc sc3 rfl rfl rfl) rfl rfl ?_; clear HF ac; intro ac HF
      refine dx_p (i := 7) HF rfl (by kernel_rfl) (by kernel_rfl) (by kernel_rfl) (by decide) (fun _ _ _ h => h) (fun _ => HH) (fa_st fd82x3 rfl) rfl rfl ?_; clear HF ac; intro ac HF
      refine dx_k (i := 8) HF rfl (by kernel_rfl) (by kernel_rfl) (by kernel_rfl) (by kernel_rfl) (by kernel_rfl) (fun _ _ _ h => h) HH (ld_sc sc22 rfl rfl rfl) rfl rfl ?_; clear HF ac; intro ac HF
      refine dx_p (i := 9) HF rfl (by kernel_rfl) (by kernel_rfl) (by kernel_rfl) (by decide) (fun _ _ _ h => h) (fun _ => HH) (yl_move rfl) rfl rfl ?_; clear HF ac; intro ac HF
      refine dx_one (i := 2) (by kernel_rfl) ?_
      refine op_call (i := 2) HF rfl Tryd.func35 (by kernel_rfl) (by kernel_rfl) (evs_cons rfl evs_nil) (leaf_any v k ys w (hy.below HS.kp) (hL.below HS.kp) (Nat.le_trans h2 HS.kp.size)) rfl rfl ?_; clear HF ac
      rintro _ w ⟨rfl, k1⟩
      refine ⟨_, rfl, fun ac HF => ?_⟩
      replace HH := HH.call k1
      replace HS := HS.call k1
      clear k1
      refine ⟨fun _ => HH, ?_⟩
      refine dx_one (i := 10) (by kernel_rfl) ?_
      refine op_call (i := 10) HF rfl Tryd.func61 (by kernel_rfl) (by kernel_rfl) (evs_cons rfl evs_nil) (hashes10_any l a c w (hr.below HS.kp) (fun p hm => (hp p hm).below HS.kp) (by omega) (hL.below HS.kp) (Nat.le_trans h2 HS.kp.size)) rfl rfl ?_; clear HF ac
      rintro _ w ⟨a7, c7, rfl, k1⟩
      refine ⟨_, rfl, fun ac HF => ?_⟩
      replace HH := HH.call k1.kp
      replace HS := HS.joinR1 k1
      clear k1
      refine ⟨fun _ => HH, ?_⟩
      refine dx_one (i := 11) (by kernel_rfl) ?_
      refine op_call (i := 11) HF rfl Tryd.func60 (by kernel_rfl) (by kernel_rfl) (evs_cons rfl evs_nil) (root_any (leavesH l) a7 c7 w HS.row0 (hL.below HS.kp) (Nat.le_trans h2 HS.kp.size)) rfl rfl ?_; clear HF ac
      rintro _ w ⟨rfl, k1⟩
      refine ⟨_, rfl, fun ac HF => ?_⟩
      replace HH := HH.call k1
      replace HS := HS.call k1
      clear k1
      refine ⟨fun _ => HH, ?_⟩
      refine dx_one (i := 12) (by kernel_rfl) ?_
      refine op_call (i := 12) HF rfl Tryd.func59 (by kernel_rfl) (by kernel_rfl) (evs_cons rfl (evs_cons rfl (evs_cons rfl (evs_cons rfl (evs_cons rfl evs_nil))))) (in_good (leafH ys) (rootH (leavesH l)) i l.length ps v2 k2 w (hps.below HS.kp) hil (by omega) (hL.below HS.kp) (Nat.le_trans h2 HS.kp.size)) rfl rfl ?_; clear HF ac
      rintro _ w ⟨rfl, k1⟩
      rw [hv]
      refine ⟨_, rfl, fun ac HF => ?_⟩
      replace HH := HH.call k1
      replace HS := HS.call k1
      clear k1
      refine ⟨fun _ => HH, ?_⟩
      refine dx_p (i := 13) HF rfl (by kernel_rfl) (by kernel_rfl) (by kernel_rfl) (by decide) (fun _ _ _ h => h) (fun _ => HH) (yl_neq rfl rfl (decide_eq_true (by exact (by decide)))) rfl rfl ?_; clear HF ac; intro ac HF
      refine dx_done (by kernel_rfl) ?_
      clear HH
      refine then_n ?_
      refine cx_true HF rfl ?_
      refine wp_seq ?_
      refine wp_region_lit ?_
      refine sx_y HF HS (yl_move rfl) rfl rfl ?_; clear HF ac; intro ac HF
      refine sx_y HF HS (yl_eql rfl rfl (decide_eq_true (by exact rfl))) rfl rfl ?_; clear HF ac; intro ac HF
      refine sx_y HF HS (yl_move rfl) rfl rfl ?_; clear HF ac; intro ac HF
      refine sx_y HF HS (yl_move rfl) rfl rfl ?_; clear HF ac; intro ac HF
      refine sx_y HF HS (yl_not rfl) rfl rfl ?_; clear HF ac; intro ac HF
      refine sx_y HF HS (yl_pick (b := true) rfl rfl) rfl rfl ?_; clear HF ac; intro ac HF
      refine sx_y HF HS (yl_move rfl) rfl rfl ?_; clear HF ac; intro ac HF
      refine sx_call HF Tryd.func57 (by kernel_rfl) (by kernel_rfl) evs_nil (awake10_any w (hL.below HS.kp) (Nat.le_trans h2 HS.kp.size)) rfl rfl ?_; clear HF ac
      rintro _ w ⟨rfl, k1⟩
      refine ⟨_, rfl, fun ac HF => ?_⟩
      replace HS := HS.call k1
      clear k1
      refine sx_y HF HS (yl_pick (b := true) rfl rfl) rfl rfl ?_; clear HF ac; intro ac HF
      refine sx_y HF HS (yl_assign rfl) rfl rfl ?_; clear HF ac; intro ac HF
      refine wpList_nil ?_
      refine then_n ?_
      refine wp_ret ?_
      refine then_r ?_
      exact rt1 rfl HF HS rfl ⟨rfl, HS.kp⟩

set_option maxRecDepth 100000 in
theorem walk_d (l : List Pt) (ys : List UInt8) (ps : List Hsh) (a v v2 : Option Addr) (c k k2 : Nat) (i : Nat) (w0 : World) (hr : Rd w0 a l.length c 1 (pts l)) (hp : ∀ p ∈ l, Rd w0 p.a p.l.length p.c 1 (bcs p.l)) (hy : Rd w0 v ys.length k 1 (bcs ys)) (hps : Rd w0 v2 ps.length k2 32 (hsc ps)) (hb : smallB l = true) (x : Pt) (hx : l[i]? = some x) (hv : inV (rootH (leavesH l)) (leadF i (l.length - 1) (leafH ys) ps) = 0) (heq : ys = x.l) (hL : Laid w0) (h2 : 4 ≤ w0.heap.size) :
    Calls Tryd.prog 12 #[.slice a l.length c, .agg (sgA (clS l.length i v ys.length k v2 ps.length k2))] w0 fun e w' => e = .returned (.bool true) ∧ Kp [] w0 w' := by
  obtain ⟨hsl, hll⟩ := smallB_is hb
  have hp2 : ∀ p ∈ l, Rd w0 p.a p.l.length p.c 1 (bcs p.l) ∧ p.l.length ≤ 1099511627775 := fun p hm => ⟨hp p hm, by have := hsl p hm; omega⟩
  have hil : i < l.length := (List.getElem?_eq_some_iff.1 hx).1
  have hbx := pts_get hx
  have hpx := hp x (List.mem_of_getElem? hx)
  refine calls_st (F := []) (args := [.slice a l.length c, .agg (sgA (clS l.length i v ys.length k v2 ps.length k2))]) Tryd.func12 rfl (n := 105) rfl rfl ?_
  intro ac w HF HS
  refine wp_seq ?_
  refine wp_region_lit ?_
  refine sx_ef HF (ef_boxs HS rfl) rfl rfl ?_; clear HF HS ac; rintro _ w ac ⟨g3, rfl, HS⟩ HF
  refine sx_y HF HS (yl_assign rfl) rfl rfl ?_; clear HF ac; intro ac HF
  refine wpList_nil ?_
  refine then_n ?_
  refine wp_seq ?_
  refine wp_seq ?_
  refine wp_region_lit ?_
  refine sx_y HF HS (yl_move rfl) rfl rfl ?_; clear HF ac; intro ac HF
  refine sx_call HF Tryd.func56 (by kernel_rfl) (by kernel_rfl) (evs_cons rfl evs_nil) (small10_any l a c w (hr.below HS.kp) (fun p hm => (hp p hm).below HS.kp)) rfl rfl ?_; clear HF ac
  rintro _ w ⟨rfl, k1⟩
  rw [hb]
  refine ⟨_, rfl, fun ac HF => ?_⟩
  replace HS := HS.call k1
  clear k1
  refine sx_y HF HS (yl_not rfl) rfl rfl ?_; clear HF ac; intro ac HF
  refine sx_y HF HS (yl_move rfl) rfl rfl ?_; clear HF ac; intro ac HF
  refine sx_y HF HS (fa_st fd82x2 rfl) rfl rfl ?_; clear HF ac; intro ac HF
  refine sx_y HF HS (ld_sc sc39 rfl rfl rfl) rfl rfl ?_; clear HF ac; intro ac HF
  refine sx_y HF HS (yl_len_slice Tryd.underlying39 rfl) rfl rfl ?_; clear HF ac; intro ac HF
  refine sx_dec HF HS (yl_gtr rfl rfl rfl) rfl rfl ?_ ?_ <;> clear HF ac <;> intro h1x7 ac HF
  · refine sx_y HF HS (yl_pick (b := false) rfl rfl) rfl rfl ?_; clear HF ac; intro ac HF
    refine sx_y HF HS (yl_move rfl) rfl rfl ?_; clear HF ac; intro ac HF
    refine sx_off HF rfl rfl ?_; clear HF ac; intro ac HF
    refine sx_off HF rfl rfl ?_; clear HF ac; intro ac HF
    refine sx_off HF rfl rfl ?_; clear HF ac; intro ac HF
    refine sx_off HF rfl rfl ?_; clear HF ac; intro ac HF
    refine sx_y HF HS (yl_pick (b := true) rfl rfl) rfl rfl ?_; clear HF ac; intro ac HF
    refine wpList_nil ?_
    refine then_n ?_
    refine cx_true HF rfl ?_
    refine wp_seq ?_
    refine wp_region_lit ?_
    refine sx_call HF Tryd.func57 (by kernel_rfl) (by kernel_rfl) evs_nil (awake10_any w (hL.below HS.kp) (Nat.le_trans h2 HS.kp.size)) rfl rfl ?_; clear HF ac
    rintro _ w ⟨rfl, k1⟩
    refine ⟨_, rfl, fun ac HF => ?_⟩
    replace HS := HS.call k1
    clear k1
    refine sx_y HF HS (yl_assign rfl) rfl rfl ?_; clear HF ac; intro ac HF
    refine wpList_nil ?_
    refine then_n ?_
    refine wp_ret ?_
    refine then_r ?_
    exact rt1 rfl HF HS rfl ⟨rfl, HS.kp⟩
  · refine sx_y HF HS (yl_pick (b := false) rfl rfl) rfl rfl ?_; clear HF ac; intro ac HF
    refine sx_y HF HS (yl_move rfl) rfl rfl ?_; clear HF ac; intro ac HF
    refine sx_y HF HS (fa_st fd82x3 rfl) rfl rfl ?_; clear HF ac; intro ac HF
    refine sx_y HF HS (ld_sc sc22 rfl rfl rfl) rfl rfl ?_; clear HF ac; intro ac HF
    refine sx_y HF HS (yl_len_slice Tryd.underlying22 rfl) rfl rfl ?_; clear HF ac; intro ac HF
    refine sx_dec HF HS (yl_gtr rfl rfl rfl) rfl rfl ?_ ?_ <;> clear HF ac <;> intro h1x13 ac HF
    · refine sx_y HF HS (yl_pick (b := false) rfl rfl) rfl rfl ?_; clear HF ac; intro ac HF
      refine wpList_nil ?_
      refine then_n ?_
      refine cx_true HF rfl ?_
      refine wp_seq ?_
      refine wp_region_lit ?_
      refine sx_call HF Tryd.func57 (by kernel_rfl) (by kernel_rfl) evs_nil (awake10_any w (hL.below HS.kp) (Nat.le_trans h2 HS.kp.size)) rfl rfl ?_; clear HF ac
      rintro _ w ⟨rfl, k1⟩
      refine ⟨_, rfl, fun ac HF => ?_⟩
      replace HS := HS.call k1
      clear k1
      refine sx_y HF HS (yl_assign rfl) rfl rfl ?_; clear HF ac; intro ac HF
      refine wpList_nil ?_
      refine then_n ?_
      refine wp_ret ?_
      refine then_r ?_
      exact rt1 rfl HF HS rfl ⟨rfl, HS.kp⟩
    · refine sx_y HF HS (yl_pick (b := false) rfl rfl) rfl rfl ?_; clear HF ac; intro ac HF
      refine wpList_nil ?_
      refine then_n ?_
      refine cx_false HF rfl ?_
      refine wp_skip ?_
      refine then_n ?_
      refine wp_seq ?_
      refine wp_region_lit ?_
      refine sx_y HF HS (yl_move rfl) rfl rfl ?_; clear HF ac; intro ac HF
      refine sx_y HF HS (ld_all ag82 rfl rfl) rfl rfl ?_; clear HF ac; intro ac HF
      refine sx_call HF Tryd.func58 (by kernel_rfl) (by kernel_rfl) (evs_cons rfl (evs_cons rfl evs_nil)) (in_same l i x ys ps a v v2 c k k2 w (hr.below HS.kp) (fun p hm => ⟨(hp2 p hm).1.below HS.kp, (hp2 p hm).2⟩) (by omega) hx (hy.below HS.kp) (hps.below HS.kp) hv heq (hL.below HS.kp) (Nat.le_trans h2 HS.kp.size)) rfl rfl ?_; clear HF ac
      rintro _ w ⟨rfl, k1⟩
      refine ⟨_, rfl, fun ac HF => ?_⟩
      replace HS := HS.call k1
      clear k1
      refine sx_y HF HS (yl_move rfl) rfl rfl ?_; clear HF ac; intro ac HF
      refine sx_y HF HS (yl_extract rfl rfl) rfl rfl ?_; clear HF ac; intro ac HF
      refine sx_y HF HS (yl_extract rfl rfl) rfl rfl ?_; clear HF ac; intro ac HF
      refine sx_y HF HS (yl_extract rfl rfl) rfl rfl ?_; clear HF ac; intro ac HF
      refine sx_ef HF (ef_alloc HS ze85) rfl rfl ?_; clear HF HS ac; rintro _ w ac ⟨g5, rfl, HS⟩ HF
      refine sx_ef0 HF (ef_stores HS sz85 rfl rfl rfl rfl) rfl ?_; clear HS; rintro _ w HS
      refine sx_y HF HS (yl_assign rfl) rfl rfl ?_; clear HF ac; intro ac HF
      refine sx_y HF HS (yl_assign rfl) rfl rfl ?_; clear HF ac; intro ac HF
      refine wpList_nil ?_
      refine then_n ?_
      refine wp_seq ?_
      refine wp_seq ?_
      refine wp_region_lit ?_
      refine sx_y HF HS (fa_st fd82x1 rfl) rfl rfl ?_; clear HF ac; intro ac HF
      refine sx_y HF HS (ld_sc sc3 rfl rfl rfl) rfl rfl ?_; clear HF ac; intro ac HF
      refine sx_y HF HS (yl_move rfl) rfl rfl ?_; clear HF ac; intro ac HF
      refine sx_y HF HS (yl_len_slice Tryd.underlying61 rfl) rfl rfl ?_; clear HF ac; intro ac HF
      refine sx_y HF HS (yl_neq rfl rfl (decide_eq_false (by omega))) rfl rfl ?_; clear HF ac; intro ac HF
      refine sx_y HF HS (yl_move rfl) rfl rfl ?_; clear HF ac; intro ac HF
      refine sx_y HF HS (fa_st fd82x0 rfl) rfl rfl ?_; clear HF ac; intro ac HF
      refine sx_y HF HS (ld_sc sc3 rfl rfl rfl) rfl rfl ?_; clear HF ac; intro ac HF
      refine sx_y HF HS (yl_lss rfl rfl (decide_eq_false (by omega))) rfl rfl ?_; clear HF ac; intro ac HF
      refine sx_y HF HS (yl_pick (b := false) rfl rfl) rfl rfl ?_; clear HF ac; intro ac HF
      refine sx_y HF HS (yl_move rfl) rfl rfl ?_; clear HF ac; intro ac HF
      refine sx_y HF HS (fa_st fd82x0 rfl) rfl rfl ?_; clear HF ac; intro ac HF
      refine sx_y HF HS (ld_sc sc3 rfl rfl rfl) rfl rfl ?_; clear HF ac; intro ac HF
      refine sx_y HF HS (yl_move rfl) rfl rfl ?_; clear HF ac; intro ac HF
      refine sx_y HF HS (yl_len_slice Tryd.underlying61 rfl) rfl rfl ?_; clear HF ac; intro ac HF
      refine sx_y HF HS (yl_geq rfl rfl (decide_eq_false (by omega))) rfl rfl ?_; clear HF ac; intro ac HF
      refine sx_y HF HS (yl_pick (b := false) rfl rfl) rfl rfl ?_; clear HF ac; intro ac HF
      refine wpList_nil ?_
      refine then_n ?_
      refine cx_false HF rfl ?_
      refine wp_skip ?_
      refine then_n ?_
      refine wp_seq ?_
      refine wp_seq ?_
      refine dx_region 14 (by kernel_rfl) HS.drew (fun _ h => h) ?_; clear HS; intro w HS
      have HH := HS
      refine dx_p (i := 0) HF rfl (by kernel_rfl) (by kernel_rfl) (by kernel_rfl) (by decide) (fun _ _ _ h => h) (fun _ => HH) (fa_st fd82x2 rfl) rfl rfl ?_; clear HF ac; intro ac HF
      refine dx_k (i := 1) HF rfl (by kernel_rfl) (by kernel_rfl) (by kernel_rfl) (by kernel_rfl) (by kernel_rfl) (fun _ _ _ h => h) HH (ld_sc sc39 rfl rfl rfl) rfl rfl ?_; clear HF ac; intro ac HF
      refine dx_p (i := 3) HF rfl (by kernel_rfl) (by kernel_rfl) (by kernel_rfl) (by decide) (fun _ _ _ h => h) (fun _ => HH) (fa_st fd82x0 rfl) rfl rfl ?_; clear HF ac; intro ac HF
      refine dx_k (i := 4) HF rfl (by kernel_rfl) (by kernel_rfl) (by kernel_rfl) (by kernel_rfl) (by kernel_rfl) (fun _ _ _ h => h) HH (ld_sc sc3 rfl rfl rfl) rfl rfl ?_; clear HF ac; intro ac HF
      refine dx_p (i := 5) HF rfl (by kernel_rfl) (by kernel_rfl) (by kernel_rfl) (by decide) (fun _ _ _ h => h) (fun _ => HH) (fa_st fd82x1 rfl) rfl rfl ?_; clear HF ac; intro ac HF
      refine dx_k (i := 6) HF rfl (by kernel_rfl) (by kernel_rfl) (by kernel_rfl) (by kernel_rfl) (by kernel_rfl) (fun _ _ _ h => h) HH (ld_sc sc3 rfl rfl rfl) rfl rfl ?_; clear HF ac; intro ac HF
      refine dx_p (i := 7) HF rfl (by kernel_rfl) (by kernel_rfl) (by kernel_rfl) (by decide) (fun _ _ _ h => h) (fun _ => HH) (fa_st fd82x3 rfl) rfl rfl ?_; clear HF ac; intro ac HF
      refine dx_k (i := 8) HF rfl (by kernel_rfl) (by kernel_rfl) (by kernel_rfl) (by kernel_rfl) (by kernel_rfl) (fun _ _ _ h => h) HH (ld_sc sc22 rfl rfl rfl) rfl rfl ?_; clear HF ac; intro ac HF
      refine dx_p (i := 9) HF rfl (by kernel_rfl) (by kernel_rfl) (by kernel_rfl) (by decide) (fun _ _ _ h => h) (fun _ => HH) (yl_move rfl) rfl rfl ?_; clear HF ac; intro ac HF
      refine dx_one (i := 2) (by kernel_rfl) ?_
      refine op_call (i := 2) HF rfl Tryd.func35 (by kernel_rfl) (by kernel_rfl) (evs_cons rfl evs_nil) (leaf_any v k ys w (hy.below HS.kp) (hL.below HS.kp) (Nat.le_trans h2 HS.kp.size)) rfl rfl ?_; clear HF ac
      rintro _ w ⟨rfl, k1⟩
      refine ⟨_, rfl, fun ac HF => ?_⟩
      replace HH := HH.call k1
      replace HS := HS.call k1
      clear k1
      refine ⟨fun _ => HH, ?_⟩
      refine dx_one (i := 10) (by kernel_rfl) ?_
      refine op_call (i := 10) HF rfl Tryd.func61 (by kernel_rfl) (by kernel_rfl) (evs_cons rfl evs_nil) (hashes10_any l a c w (hr.below HS.kp) (fun p hm => (hp p hm).below HS.kp) (by omega) (hL.below HS.kp) (Nat.le_trans h2 HS.kp.size)) rfl rfl ?_; clear HF ac
      rintro _ w ⟨a7, c7, rfl, k1⟩
      refine ⟨_, rfl, fun ac HF => ?_⟩
      replace HH := HH.call k1.kp
      replace HS := HS.joinR1 k1
      clear k1
      refine ⟨fun _ => HH, ?_⟩
      refine dx_one (i := 11) (by kernel_rfl) ?_
      refine op_call (i := 11) HF rfl Tryd.func60 (by kernel_rfl) (by kernel_rfl) (evs_cons rfl evs_nil) (root_any (leavesH l) a7 c7 w HS.row0 (hL.below HS.kp) (Nat.le_trans h2 HS.kp.size)) rfl rfl ?_; clear HF ac
      rintro _ w ⟨rfl, k1⟩
      refine ⟨_, rfl, fun ac HF => ?_⟩
      replace HH := HH.call k1
      replace HS := HS.call k1
      clear k1
      refine ⟨fun _ => HH, ?_⟩
      refine dx_one (i := 12) (by kernel_rfl) ?_
      refine op_call (i := 12) HF rfl Tryd.func59 (by kernel_rfl) (by kernel_rfl) (evs_cons rfl (evs_cons rfl (evs_cons rfl (evs_cons rfl (evs_cons rfl evs_nil))))) (in_good (leafH ys) (rootH (leavesH l)) i l.length ps v2 k2 w (hps.below HS.kp) hil (by omega) (hL.below HS.kp) (Nat.le_trans h2 HS.kp.size)) rfl rfl ?_; clear HF ac
      rintro _ w ⟨rfl, k1⟩
      rw [hv]
      refine ⟨_, rfl, fun ac HF => ?_⟩
      replace HH := HH.call k1
      replace HS := HS.call k1
      clear k1
      refine ⟨fun _ => HH, ?_⟩
      refine dx_p (i := 13) HF rfl (by kernel_rfl) (by kernel_rfl) (by kernel_rfl) (by decide) (fun _ _ _ h => h) (fun _ => HH) (yl_neq rfl rfl (decide_eq_false (by exact (fun h => h rfl)))) rfl rfl ?_; clear HF ac; intro ac HF
      refine dx_done (by kernel_rfl) ?_
      clear HH
      refine then_n ?_
      refine cx_false HF rfl ?_
      refine wp_skip ?_
      refine then_n ?_
      refine wp_seq ?_
      refine wp_seq ?_
      refine dx_region 16 (by kernel_rfl) HS.drew (fun _ h => h) ?_; clear HS; intro w HS
      have HH := HS
      refine dx_p (i := 0) HF rfl (by kernel_rfl) (by kernel_rfl) (by kernel_rfl) (by decide) (fun _ _ _ h => h) (fun _ => HH) (yl_move rfl) rfl rfl ?_; clear HF ac; intro ac HF
      refine dx_p (i := 1) HF rfl (by kernel_rfl) (by kernel_rfl) (by kernel_rfl) (by decide) (fun _ _ _ h => h) (fun _ => HH) (yl_neq rfl rfl (decide_eq_false (by exact (fun h => h rfl)))) rfl rfl ?_; clear HF ac; intro ac HF
      refine dx_p (i := 2) HF rfl (by kernel_rfl) (by kernel_rfl) (by kernel_rfl) (by decide) (fun _ _ _ h => h) (fun _ => HH) (yl_move rfl) rfl rfl ?_; clear HF ac; intro ac HF
      refine dx_p (i := 3) HF rfl (by kernel_rfl) (by kernel_rfl) (by kernel_rfl) (by decide) (fun _ _ _ h => h) (fun _ => HH) (yl_move rfl) rfl rfl ?_; clear HF ac; intro ac HF
      refine dx_p (i := 4) HF rfl (by kernel_rfl) (by kernel_rfl) (by kernel_rfl) (by decide) (fun _ _ _ h => h) (fun _ => HH) (fa_st fd82x2 rfl) rfl rfl ?_; clear HF ac; intro ac HF
      refine dx_k (i := 5) HF rfl (by kernel_rfl) (by kernel_rfl) (by kernel_rfl) (by kernel_rfl) (by kernel_rfl) (fun _ _ _ h => h) HH (ld_sc sc39 rfl rfl rfl) rfl rfl ?_; clear HF ac; intro ac HF
      refine dx_k (i := 6) HF rfl (by kernel_rfl) (by kernel_rfl) (by kernel_rfl) (by kernel_rfl) (by kernel_rfl) (fun _ _ _ h => h) HH (yl_str Tryd.underlying39 Tryd.underlying5 Tryd.underlying9 rfl (fun w h => hy.below h.kp)) rfl rfl ?_; clear HF ac; intro ac HF
      refine dx_p (i := 7) HF rfl (by kernel_rfl) (by kernel_rfl) (by kernel_rfl) (by decide) (fun _ _ _ h => h) (fun _ => HH) (yl_move rfl) rfl rfl ?_; clear HF ac; intro ac HF
      refine dx_p (i := 8) HF rfl (by kernel_rfl) (by kernel_rfl) (by kernel_rfl) (by decide) (fun _ _ _ h => h) (fun _ => HH) (fa_st fd82x0 rfl) rfl rfl ?_; clear HF ac; intro ac HF
      refine dx_k (i := 9) HF rfl (by kernel_rfl) (by kernel_rfl) (by kernel_rfl) (by kernel_rfl) (by kernel_rfl) (fun _ _ _ h => h) HH (ld_sc sc3 rfl rfl rfl) rfl rfl ?_; clear HF ac; intro ac HF
      refine dx_p (i := 10) HF rfl (by kernel_rfl) (by kernel_rfl) (by kernel_rfl) (by decide) (fun _ _ _ h => h) (fun _ => HH) (ix_sl Tryd.underlying61 sz39 rfl rfl (by omega) hr.nil0) rfl rfl ?_; clear HF ac; intro ac HF
      refine dx_k (i := 11) HF rfl (by kernel_rfl) (by kernel_rfl) (by kernel_rfl) (by kernel_rfl) (by kernel_rfl) (fun _ _ _ h => h) HH (ld_elC sc39 rfl hbx (fun w h => hr.below h.kp)) rfl rfl ?_; clear HF ac; intro ac HF
      refine dx_k (i := 12) HF rfl (by kernel_rfl) (by kernel_rfl) (by kernel_rfl) (by kernel_rfl) (by kernel_rfl) (fun _ _ _ h => h) HH (yl_str Tryd.underlying39 Tryd.underlying5 Tryd.underlying9 rfl (fun w h => hpx.below h.kp)) rfl rfl ?_; clear HF ac; intro ac HF
      refine dx_p (i := 13) HF rfl (by kernel_rfl) (by kernel_rfl) (by kernel_rfl) (by decide) (fun _ _ _ h => h) (fun _ => HH) (yl_neS rfl rfl (decide_eq_false (by exact (fun h => h heq)))) rfl rfl ?_; clear HF ac; intro ac HF
      refine dx_p (i := 14) HF rfl (by kernel_rfl) (by kernel_rfl) (by kernel_rfl) (by decide) (fun _ _ _ h => h) (fun _ => HH) (yl_neB Tryd.underlying4 rfl rfl rfl) rfl rfl ?_; clear HF ac; intro ac HF
      refine dx_p (i := 15) HF rfl (by kernel_rfl) (by kernel_rfl) (by kernel_rfl) (by decide) (fun _ _ _ h => h) (fun _ => HH) (yl_pick (b := false) rfl rfl) rfl rfl ?_; clear HF ac; intro ac HF
      refine dx_done (by kernel_rfl) ?_
      clear HH
      refine then_n ?_
      refine cx_false HF rfl ?_
      refine wp_skip ?_
      refine then_n ?_
      refine wp_seq ?_
      refine wp_region_lit ?_
      refine sx_y HF HS (yl_move rfl) rfl rfl ?_; clear HF ac; intro ac HF
      refine sx_y HF HS (yl_not rfl) rfl rfl ?_; clear HF ac; intro ac HF
      refine sx_y HF HS (yl_move rfl) rfl rfl ?_; clear HF ac; intro ac HF
      refine sx_off HF rfl rfl ?_; clear HF ac; intro ac HF
      refine sx_off HF rfl rfl ?_; clear HF ac; intro ac HF
      refine sx_y HF HS (yl_pick (b := true) rfl rfl) rfl rfl ?_; clear HF ac; intro ac HF
      refine sx_y HF HS (yl_move rfl) rfl rfl ?_; clear HF ac; intro ac HF
      refine sx_call HF Tryd.func57 (by kernel_rfl) (by kernel_rfl) evs_nil (awake10_any w (hL.below HS.kp) (Nat.le_trans h2 HS.kp.size)) rfl rfl ?_; clear HF ac
      rintro _ w ⟨rfl, k1⟩
      refine ⟨_, rfl, fun ac HF => ?_⟩
      replace HS := HS.call k1
      clear k1
      refine sx_y HF HS (yl_pick (b := true) rfl rfl) rfl rfl ?_; clear HF ac; intro ac HF
      refine sx_y HF HS (yl_assign rfl) rfl rfl ?_; clear HF ac; intro ac HF
      refine wpList_nil ?_
      refine then_n ?_
      refine wp_ret ?_
      exact rt1 rfl HF HS rfl ⟨rfl, HS.kp⟩

set_option maxRecDepth 100000 in
theorem walk_e (l : List Pt) (ys : List UInt8) (ps : List Hsh) (a v v2 : Option Addr) (c k k2 : Nat) (i : Nat) (w0 : World) (hr : Rd w0 a l.length c 1 (pts l)) (hp : ∀ p ∈ l, Rd w0 p.a p.l.length p.c 1 (bcs p.l)) (hy : Rd w0 v ys.length k 1 (bcs ys)) (hps : Rd w0 v2 ps.length k2 32 (hsc ps)) (hb : smallB l = true) (x : Pt) (hx : l[i]? = some x) (hlead : leadF i (l.length - 1) (leafH ys) ps = some (rootH (leavesH l))) (hne : ¬ ys = x.l) (hL : Laid w0) (h2 : 4 ≤ w0.heap.size) :
    Calls Tryd.prog 12 #[.slice a l.length c, .agg (sgA (clS l.length i v ys.length k v2 ps.length k2))] w0 fun e w' => e = .returned (.bool true) ∧ Kp [] w0 w' := by
  obtain ⟨hsl, hll⟩ := smallB_is hb
  have hp2 : ∀ p ∈ l, Rd w0 p.a p.l.length p.c 1 (bcs p.l) ∧ p.l.length ≤ 1099511627775 := fun p hm => ⟨hp p hm, by have := hsl p hm; omega⟩
  have hil : i < l.length := (List.getElem?_eq_some_iff.1 hx).1
  have hbx := pts_get hx
  have hpx := hp x (List.mem_of_getElem? hx)
  have hv : inV (rootH (leavesH l)) (leadF i (l.length - 1) (leafH ys) ps) = 0 := by rw [hlead]; exact if_pos rfl
  refine calls_st (F := []) (args := [.slice a l.length c, .agg (sgA (clS l.length i v ys.length k v2 ps.length k2))]) Tryd.func12 rfl (n := 105) rfl rfl ?_
  intro ac w HF HS
  refine wp_seq ?_
  refine wp_region_lit ?_
  refine sx_ef HF (ef_boxs HS rfl) rfl rfl ?_; clear HF HS ac; rintro _ w ac ⟨g3, rfl, HS⟩ HF
  refine sx_y HF HS (yl_assign rfl) rfl rfl ?_; clear HF ac; intro ac HF
  refine wpList_nil ?_
  refine then_n ?_
  refine wp_seq ?_
  refine wp_seq ?_
  refine wp_region_lit ?_
  refine sx_y HF HS (yl_move rfl) rfl rfl ?_; clear HF ac; intro ac HF
  refine sx_call HF Tryd.func56 (by kernel_rfl) (by kernel_rfl) (evs_cons rfl evs_nil) (small10_any l a c w (hr.below HS.kp) (fun p hm => (hp p hm).below HS.kp)) rfl rfl ?_; clear HF ac
  rintro _ w ⟨rfl, k1⟩
  rw [hb]
  refine ⟨_, rfl, fun ac HF => ?_⟩
  replace HS := HS.call k1
  clear k1
  refine sx_y HF HS (yl_not rfl) rfl rfl ?_; clear HF ac; intro ac HF
  refine sx_y HF HS (yl_move rfl) rfl rfl ?_; clear HF ac; intro ac HF
  refine sx_y HF HS (fa_st fd82x2 rfl) rfl rfl ?_; clear HF ac; intro ac HF
  refine sx_y HF HS (ld_sc sc39 rfl rfl rfl) rfl rfl ?_; clear HF ac; intro ac HF
  refine sx_y HF HS (yl_len_slice Tryd.underlying39 rfl) rfl rfl ?_; clear HF ac; intro ac HF
  refine sx_dec HF HS (yl_gtr rfl rfl rfl) rfl rfl ?_ ?_ <;> clear HF ac <;> intro h1x7 ac HF
  · refine sx_y HF HS (yl_pick (b := false) rfl rfl) rfl rfl ?_; clear HF ac; intro ac HF
    refine sx_y HF HS (yl_move rfl) rfl rfl ?_; clear HF ac; intro ac HF
    refine sx_off HF rfl rfl ?_; clear HF ac; intro ac HF
    refine sx_off HF rfl rfl ?_; clear HF ac; intro ac HF
    refine sx_off HF rfl rfl ?_; clear HF ac; intro ac HF
    refine sx_off HF rfl rfl ?_; clear HF ac; intro ac HF
    refine sx_y HF HS (yl_pick (b := true) rfl rfl) rfl rfl ?_; clear HF ac; intro ac HF
    refine wpList_nil ?_
    refine then_n ?_
    refine cx_true HF rfl ?_
    refine wp_seq ?_
    refine wp_region_lit ?_
    refine sx_call HF Tryd.func57 (by kernel_rfl) (by kernel_rfl) evs_nil (awake10_any w (hL.below HS.kp) (Nat.le_trans h2 HS.kp.size)) rfl rfl ?_; clear HF ac
    rintro _ w ⟨rfl, k1⟩
    refine ⟨_, rfl, fun ac HF => ?_⟩
    replace HS := HS.call k1
    clear k1
    refine sx_y HF HS (yl_assign rfl) rfl rfl ?_; clear HF ac; intro ac HF
    refine wpList_nil ?_
    refine then_n ?_
    refine wp_ret ?_
    refine then_r ?_
    exact rt1 rfl HF HS rfl ⟨rfl, HS.kp⟩
  · refine sx_y HF HS (yl_pick (b := false) rfl rfl) rfl rfl ?_; clear HF ac; intro ac HF
    refine sx_y HF HS (yl_move rfl) rfl rfl ?_; clear HF ac; intro ac HF
    refine sx_y HF HS (fa_st fd82x3 rfl) rfl rfl ?_; clear HF ac; intro ac HF
    refine sx_y HF HS (ld_sc sc22 rfl rfl rfl) rfl rfl ?_; clear HF ac; intro ac HF
    refine sx_y HF HS (yl_len_slice Tryd.underlying22 rfl) rfl rfl ?_; clear HF ac; intro ac HF
    refine sx_dec HF HS (yl_gtr rfl rfl rfl) rfl rfl ?_ ?_ <;> clear HF ac <;> intro h1x13 ac HF
    · refine sx_y HF HS (yl_pick (b := false) rfl rfl) rfl rfl ?_; clear HF ac; intro ac HF
      refine wpList_nil ?_
      refine then_n ?_
      refine cx_true HF rfl ?_
      refine wp_seq ?_
      refine wp_region_lit ?_
      refine sx_call HF Tryd.func57 (by kernel_rfl) (by kernel_rfl) evs_nil (awake10_any w (hL.below HS.kp) (Nat.le_trans h2 HS.kp.size)) rfl rfl ?_; clear HF ac
      rintro _ w ⟨rfl, k1⟩
      refine ⟨_, rfl, fun ac HF => ?_⟩
      replace HS := HS.call k1
      clear k1
      refine sx_y HF HS (yl_assign rfl) rfl rfl ?_; clear HF ac; intro ac HF
      refine wpList_nil ?_
      refine then_n ?_
      refine wp_ret ?_
      refine then_r ?_
      exact rt1 rfl HF HS rfl ⟨rfl, HS.kp⟩
    · refine sx_y HF HS (yl_pick (b := false) rfl rfl) rfl rfl ?_; clear HF ac; intro ac HF
      refine wpList_nil ?_
      refine then_n ?_
      refine cx_false HF rfl ?_
      refine wp_skip ?_
      refine then_n ?_
      refine wp_seq ?_
      refine wp_region_lit ?_
      refine sx_y HF HS (yl_move rfl) rfl rfl ?_; clear HF ac; intro ac HF
      refine sx_y HF HS (ld_all ag82 rfl rfl) rfl rfl ?_; clear HF ac; intro ac HF
      refine sx_call HF Tryd.func58 (by kernel_rfl) (by kernel_rfl) (evs_cons rfl (evs_cons rfl evs_nil)) (in_any l i x ys ps a v v2 c k k2 w (hr.below HS.kp) (fun p hm => ⟨(hp2 p hm).1.below HS.kp, (hp2 p hm).2⟩) (by omega) hx (hy.below HS.kp) (by omega) (hps.below HS.kp) hlead hne (hL.below HS.kp) (Nat.le_trans h2 HS.kp.size)) rfl rfl ?_; clear HF ac
      rintro _ w ⟨xs, zs, a1, c1, b1, e1, rfl, k1, hrb⟩
      refine ⟨_, rfl, fun ac HF => ?_⟩
      replace HS := HS.joinR2 k1
      clear k1
      refine sx_y HF HS (yl_move rfl) rfl rfl ?_; clear HF ac; intro ac HF
      refine sx_y HF HS (yl_extract rfl rfl) rfl rfl ?_; clear HF ac; intro ac HF
      refine sx_y HF HS (yl_extract rfl rfl) rfl rfl ?_; clear HF ac; intro ac HF
      refine sx_y HF HS (yl_extract rfl rfl) rfl rfl ?_; clear HF ac; intro ac HF
      refine sx_ef HF (ef_alloc HS ze85) rfl rfl ?_; clear HF HS ac; rintro _ w ac ⟨g5, rfl, HS⟩ HF
      refine sx_ef0 HF (ef_stores HS sz85 rfl rfl rfl rfl) rfl ?_; clear HS; rintro _ w HS
      refine sx_y HF HS (yl_assign rfl) rfl rfl ?_; clear HF ac; intro ac HF
      refine sx_y HF HS (yl_assign rfl) rfl rfl ?_; clear HF ac; intro ac HF
      refine wpList_nil ?_
      refine then_n ?_
      refine wp_seq ?_
      refine wp_seq ?_
      refine wp_region_lit ?_
      refine sx_y HF HS (fa_st fd82x1 rfl) rfl rfl ?_; clear HF ac; intro ac HF
      refine sx_y HF HS (ld_sc sc3 rfl rfl rfl) rfl rfl ?_; clear HF ac; intro ac HF
      refine sx_y HF HS (yl_move rfl) rfl rfl ?_; clear HF ac; intro ac HF
      refine sx_y HF HS (yl_len_slice Tryd.underlying61 rfl) rfl rfl ?_; clear HF ac; intro ac HF
      refine sx_y HF HS (yl_neq rfl rfl (decide_eq_false (by omega))) rfl rfl ?_; clear HF ac; intro ac HF
      refine sx_y HF HS (yl_move rfl) rfl rfl ?_; clear HF ac; intro ac HF
      refine sx_y HF HS (fa_st fd82x0 rfl) rfl rfl ?_; clear HF ac; intro ac HF
      refine sx_y HF HS (ld_sc sc3 rfl rfl rfl) rfl rfl ?_; clear HF ac; intro ac HF
      refine sx_y HF HS (yl_lss rfl rfl (decide_eq_false (by omega))) rfl rfl ?_; clear HF ac; intro ac HF
      refine sx_y HF HS (yl_pick (b := false) rfl rfl) rfl rfl ?_; clear HF ac; intro ac HF
      refine sx_y HF HS (yl_move rfl) rfl rfl ?_; clear HF ac; intro ac HF
      refine sx_y HF HS (fa_st fd82x0 rfl) rfl rfl ?_; clear HF ac; intro ac HF
      refine sx_y HF HS (ld_sc sc3 rfl rfl rfl) rfl rfl ?_; clear HF ac; intro ac HF
      refine sx_y HF HS (yl_move rfl) rfl rfl ?_; clear HF ac; intro ac HF
      refine sx_y HF HS (yl_len_slice Tryd.underlying61 rfl) rfl rfl ?_; clear HF ac; intro ac HF
      refine sx_y HF HS (yl_geq rfl rfl (decide_eq_false (by omega))) rfl rfl ?_; clear HF ac; intro ac HF
      refine sx_y HF HS (yl_pick (b := false) rfl rfl) rfl rfl ?_; clear HF ac; intro ac HF
      refine wpList_nil ?_
      refine then_n ?_
      refine cx_false HF rfl ?_
      refine wp_skip ?_
      refine then_n ?_
      refine wp_seq ?_
      refine wp_seq ?_
      refine dx_region 14 (by kernel_rfl) HS.drew (fun _ h => h) ?_; clear HS; intro w HS
      have HH := HS
      refine dx_p (i := 0) HF rfl (by kernel_rfl) (by kernel_rfl) (by kernel_rfl) (by decide) (fun _ _ _ h => h) (fun _ => HH) (fa_st fd82x2 rfl) rfl rfl ?_; clear HF ac; intro ac HF
      refine dx_k (i := 1) HF rfl (by kernel_rfl) (by kernel_rfl) (by kernel_rfl) (by kernel_rfl) (by kernel_rfl) (fun _ _ _ h => h) HH (ld_sc sc39 rfl rfl rfl) rfl rfl ?_; clear HF ac; intro ac HF
      refine dx_p (i := 3) HF rfl (by kernel_rfl) (by kernel_rfl) (by kernel_rfl) (by decide) (fun _ _ _ h => h) (fun _ => HH) (fa_st fd82x0 rfl) rfl rfl ?_; clear HF ac; intro ac HF
      refine dx_k (i := 4) HF rfl (by kernel_rfl) (by kernel_rfl) (by kernel_rfl) (by kernel_rfl) (by kernel_rfl) (fun _ _ _ h => h) HH (ld_sc sc3 rfl rfl rfl) rfl rfl ?_; clear HF ac; intro ac HF
      refine dx_p (i := 5) HF rfl (by kernel_rfl) (by kernel_rfl) (by kernel_rfl) (by decide) (fun _ _ _ h => h) (fun _ => HH) (fa_st fd82x1 rfl) rfl rfl ?_; clear HF ac; intro ac HF
      refine dx_k (i := 6) HF rfl (by kernel_rfl) (by kernel_rfl) (by kernel_rfl) (by kernel_rfl) (by kernel_rfl) (fun _ _ _ h => h) HH (ld_sc sc3 rfl rfl rfl) rfl rfl ?_; clear HF ac; intro ac HF
      refine dx_p (i := 7) HF rfl (by kernel_rfl) (by kernel_rfl) (by kernel_rfl) (by decide) (fun _ _ _ h => h) (fun _ => HH) (fa_st fd82x3 rfl) rfl rfl ?_; clear HF ac; intro ac HF
      refine dx_k (i := 8) HF rfl (by kernel_rfl) (by kernel_rfl) (by kernel_rfl) (by kernel_rfl) (by kernel_rfl) (fun _ _ _ h => h) HH (ld_sc sc22 rfl rfl rfl) rfl rfl ?_; clear HF ac; intro ac HF
      refine dx_p (i := 9) HF rfl (by kernel_rfl) (by kernel_rfl) (by kernel_rfl) (by decide) (fun _ _ _ h => h) (fun _ => HH) (yl_move rfl) rfl rfl ?_; clear HF ac; intro ac HF
      refine dx_one (i := 2) (by kernel_rfl) ?_
      refine op_call (i := 2) HF rfl Tryd.func35 (by kernel_rfl) (by kernel_rfl) (evs_cons rfl evs_nil) (leaf_any v k ys w (hy.below HS.kp) (hL.below HS.kp) (Nat.le_trans h2 HS.kp.size)) rfl rfl ?_; clear HF ac
      rintro _ w ⟨rfl, k1⟩
      refine ⟨_, rfl, fun ac HF => ?_⟩
      replace HH := HH.call k1
      replace HS := HS.call k1
      clear k1
      refine ⟨fun _ => HH, ?_⟩
      refine dx_one (i := 10) (by kernel_rfl) ?_
      refine op_call (i := 10) HF rfl Tryd.func61 (by kernel_rfl) (by kernel_rfl) (evs_cons rfl evs_nil) (hashes10_any l a c w (hr.below HS.kp) (fun p hm => (hp p hm).below HS.kp) (by omega) (hL.below HS.kp) (Nat.le_trans h2 HS.kp.size)) rfl rfl ?_; clear HF ac
      rintro _ w ⟨a7, c7, rfl, k1⟩
      refine ⟨_, rfl, fun ac HF => ?_⟩
      replace HH := HH.call k1.kp
      replace HS := HS.joinR1 k1
      clear k1
      refine ⟨fun _ => HH, ?_⟩
      refine dx_one (i := 11) (by kernel_rfl) ?_
      refine op_call (i := 11) HF rfl Tryd.func60 (by kernel_rfl) (by kernel_rfl) (evs_cons rfl evs_nil) (root_any (leavesH l) a7 c7 w HS.row0 (hL.below HS.kp) (Nat.le_trans h2 HS.kp.size)) rfl rfl ?_; clear HF ac
      rintro _ w ⟨rfl, k1⟩
      refine ⟨_, rfl, fun ac HF => ?_⟩
      replace HH := HH.call k1
      replace HS := HS.call k1
      clear k1
      refine ⟨fun _ => HH, ?_⟩
      refine dx_one (i := 12) (by kernel_rfl) ?_
      refine op_call (i := 12) HF rfl Tryd.func59 (by kernel_rfl) (by kernel_rfl) (evs_cons rfl (evs_cons rfl (evs_cons rfl (evs_cons rfl (evs_cons rfl evs_nil))))) (in_good (leafH ys) (rootH (leavesH l)) i l.length ps v2 k2 w (hps.below HS.kp) hil (by omega) (hL.below HS.kp) (Nat.le_trans h2 HS.kp.size)) rfl rfl ?_; clear HF ac
      rintro _ w ⟨rfl, k1⟩
      rw [hv]
      refine ⟨_, rfl, fun ac HF => ?_⟩
      replace HH := HH.call k1
      replace HS := HS.call k1
      clear k1
      refine ⟨fun _ => HH, ?_⟩
      refine dx_p (i := 13) HF rfl (by kernel_rfl) (by kernel_rfl) (by kernel_rfl) (by decide) (fun _ _ _ h => h) (fun _ => HH) (yl_neq rfl rfl (decide_eq_false (by exact (fun h => h rfl)))) rfl rfl ?_; clear HF ac; intro ac HF
      refine dx_done (by kernel_rfl) ?_
      clear HH
      refine then_n ?_
      refine cx_false HF rfl ?_
      refine wp_skip ?_
      refine then_n ?_
      refine wp_seq ?_
      refine wp_seq ?_
      refine dx_region 16 (by kernel_rfl) HS.drew (fun _ h => h) ?_; clear HS; intro w HS
      have HH := HS
      refine dx_p (i := 0) HF rfl (by kernel_rfl) (by kernel_rfl) (by kernel_rfl) (by decide) (fun _ _ _ h => h) (fun _ => HH) (yl_move rfl) rfl rfl ?_; clear HF ac; intro ac HF
      refine dx_p (i := 1) HF rfl (by kernel_rfl) (by kernel_rfl) (by kernel_rfl) (by decide) (fun _ _ _ h => h) (fun _ => HH) (yl_neq rfl rfl (decide_eq_false (by exact (fun h => h rfl)))) rfl rfl ?_; clear HF ac; intro ac HF
      refine dx_p (i := 2) HF rfl (by kernel_rfl) (by kernel_rfl) (by kernel_rfl) (by decide) (fun _ _ _ h => h) (fun _ => HH) (yl_move rfl) rfl rfl ?_; clear HF ac; intro ac HF
      refine dx_p (i := 3) HF rfl (by kernel_rfl) (by kernel_rfl) (by kernel_rfl) (by decide) (fun _ _ _ h => h) (fun _ => HH) (yl_move rfl) rfl rfl ?_; clear HF ac; intro ac HF
      refine dx_p (i := 4) HF rfl (by kernel_rfl) (by kernel_rfl) (by kernel_rfl) (by decide) (fun _ _ _ h => h) (fun _ => HH) (fa_st fd82x2 rfl) rfl rfl ?_; clear HF ac; intro ac HF
      refine dx_k (i := 5) HF rfl (by kernel_rfl) (by kernel_rfl) (by kernel_rfl) (by kernel_rfl) (by kernel_rfl) (fun _ _ _ h => h) HH (ld_sc sc39 rfl rfl rfl) rfl rfl ?_; clear HF ac; intro ac HF
      refine dx_k (i := 6) HF rfl (by kernel_rfl) (by kernel_rfl) (by kernel_rfl) (by kernel_rfl) (by kernel_rfl) (fun _ _ _ h => h) HH (yl_str Tryd.underlying39 Tryd.underlying5 Tryd.underlying9 rfl (fun w h => hy.below h.kp)) rfl rfl ?_; clear HF ac; intro ac HF
      refine dx_p (i := 7) HF rfl (by kernel_rfl) (by kernel_rfl) (by kernel_rfl) (by decide) (fun _ _ _ h => h) (fun _ => HH) (yl_move rfl) rfl rfl ?_; clear HF ac; intro ac HF
      refine dx_p (i := 8) HF rfl (by kernel_rfl) (by kernel_rfl) (by kernel_rfl) (by decide) (fun _ _ _ h => h) (fun _ => HH) (fa_st fd82x0 rfl) rfl rfl ?_; clear HF ac; intro ac HF
      refine dx_k (i := 9) HF rfl (by kernel_rfl) (by kernel_rfl) (by kernel_rfl) (by kernel_rfl) (by kernel_rfl) (fun _ _ _ h => h) HH (ld_sc sc3 rfl rfl rfl) rfl rfl ?_; clear HF ac; intro ac HF
      refine dx_p (i := 10) HF rfl (by kernel_rfl) (by kernel_rfl) (by kernel_rfl) (by decide) (fun _ _ _ h => h) (fun _ => HH) (ix_sl Tryd.underlying61 sz39 rfl rfl (by omega) hr.nil0) rfl rfl ?_; clear HF ac; intro ac HF
      refine dx_k (i := 11) HF rfl (by kernel_rfl) (by kernel_rfl) (by kernel_rfl) (by kernel_rfl) (by kernel_rfl) (fun _ _ _ h => h) HH (ld_elC sc39 rfl hbx (fun w h => hr.below h.kp)) rfl rfl ?_; clear HF ac; intro ac HF
      refine dx_k (i := 12) HF rfl (by kernel_rfl) (by kernel_rfl) (by kernel_rfl) (by kernel_rfl) (by kernel_rfl) (fun _ _ _ h => h) HH (yl_str Tryd.underlying39 Tryd.underlying5 Tryd.underlying9 rfl (fun w h => hpx.below h.kp)) rfl rfl ?_; clear HF ac; intro ac HF
      refine dx_p (i := 13) HF rfl (by kernel_rfl) (by kernel_rfl) (by kernel_rfl) (by decide) (fun _ _ _ h => h) (fun _ => HH) (yl_neS rfl rfl (decide_eq_true (by exact hne))) rfl rfl ?_; clear HF ac; intro ac HF
      refine dx_p (i := 14) HF rfl (by kernel_rfl) (by kernel_rfl) (by kernel_rfl) (by decide) (fun _ _ _ h => h) (fun _ => HH) (yl_neB Tryd.underlying4 rfl rfl rfl) rfl rfl ?_; clear HF ac; intro ac HF
      refine dx_p (i := 15) HF rfl (by kernel_rfl) (by kernel_rfl) (by kernel_rfl) (by decide) (fun _ _ _ h => h) (fun _ => HH) (yl_pick (b := false) rfl rfl) rfl rfl ?_; clear HF ac; intro ac HF
      refine dx_done (by kernel_rfl) ?_
      clear HH
      refine then_n ?_
      refine cx_false HF rfl ?_
      refine wp_skip ?_
      refine then_n ?_
      refine wp_seq ?_
      refine wp_region_lit ?_
      refine sx_y HF HS (yl_move rfl) rfl rfl ?_; clear HF ac; intro ac HF
      refine sx_y HF HS (yl_not rfl) rfl rfl ?_; clear HF ac; intro ac HF
      refine sx_y HF HS (yl_move rfl) rfl rfl ?_; clear HF ac; intro ac HF
      refine sx_y HF HS (ld_all ag85 rfl rfl) rfl rfl ?_; clear HF ac; intro ac HF
      refine sx_call HF Tryd.func62 (by kernel_rfl) (by kernel_rfl) (evs_cons rfl evs_nil) (right10_any xs zs a1 b1 c1 e1 w HS.r1.row1 HS.r1.row0 (hL.below HS.kp) (Nat.le_trans h2 HS.kp.size)) rfl rfl ?_; clear HF ac
      rintro _ w ⟨rfl, k1⟩
      rw [hrb]
      refine ⟨_, rfl, fun ac HF => ?_⟩
      replace HS := HS.call k1
      clear k1
      refine sx_y HF HS (yl_pick (b := false) rfl rfl) rfl rfl ?_; clear HF ac; intro ac HF
      refine sx_y HF HS (yl_move rfl) rfl rfl ?_; clear HF ac; intro ac HF
      refine sx_call HF Tryd.func57 (by kernel_rfl) (by kernel_rfl) evs_nil (awake10_any w (hL.below HS.kp) (Nat.le_trans h2 HS.kp.size)) rfl rfl ?_; clear HF ac
      rintro _ w ⟨rfl, k1⟩
      refine ⟨_, rfl, fun ac HF => ?_⟩
      replace HS := HS.call k1
      clear k1
      refine sx_y HF HS (yl_pick (b := true) rfl rfl) rfl rfl ?_; clear HF ac; intro ac HF
      refine sx_y HF HS (yl_assign rfl) rfl rfl ?_; clear HF ac; intro ac HF
      refine wpList_nil ?_
      refine then_n ?_
      refine wp_ret ?_
      exact rt1 rfl HF HS rfl ⟨rfl, HS.kp⟩

theorem walk (l : List Pt) (ys : List UInt8) (ps : List Hsh) (a v v2 : Option Addr) (c k k2 : Nat) (s i : Int) (w0 : World) (hr : Rd w0 a l.length c 1 (pts l)) (hp : ∀ p ∈ l, Rd w0 p.a p.l.length p.c 1 (bcs p.l)) (hy : Rd w0 v ys.length k 1 (bcs ys)) (hps : Rd w0 v2 ps.length k2 32 (hsc ps)) (hL : Laid w0) (h2 : 4 ≤ w0.heap.size) :
    Calls Tryd.prog 12 #[.slice a l.length c, .agg (sgA (clS s i v ys.length k v2 ps.length k2))] w0 fun e w' => e = .returned (.bool true) ∧ Kp [] w0 w' := by
  cases hb : smallB l with
  | false => exact walk_a l ys ps a v v2 c k k2 s i w0 hr hp hy hps hb hL h2
  | true =>
    by_cases h : s ≠ (l.length : Int) ∨ i < 0 ∨ s ≤ i
    · exact walk_b l ys ps a v v2 c k k2 s i w0 hr hp hy hps hb h hL h2
    · obtain rfl : s = (l.length : Int) := Classical.byContradiction fun hh => h (.inl hh)
      obtain ⟨j, rfl⟩ : ∃ j : Nat, i = j := ⟨i.toNat, by omega⟩
      obtain ⟨x, hx⟩ : ∃ x, l[j]? = some x := ⟨_, List.getElem?_eq_getElem (by omega)⟩
      have hbad : ∀ o : Option Hsh, ¬ o = some (rootH (leavesH l)) → inV (rootH (leavesH l)) o = 22 := fun o ho => by
        cases o with
        | none => rfl
        | some r => exact if_neg (fun hh => ho (by rw [hh]))
      by_cases hq : leadF j (l.length - 1) (leafH ys) ps = some (rootH (leavesH l))
      · by_cases heq : ys = x.l
        · exact walk_d l ys ps a v v2 c k k2 j w0 hr hp hy hps hb x hx (by rw [hq]; exact if_pos rfl) heq hL h2
        · exact walk_e l ys ps a v v2 c k k2 j w0 hr hp hy hps hb x hx hq heq hL h2
      · exact walk_c l ys ps a v v2 c k k2 j w0 hr hp hy hps hb x hx (hbad _ hq) hL h2

end Go.Proofs.YtalnkhgonfcabaaDoor.collideIn
