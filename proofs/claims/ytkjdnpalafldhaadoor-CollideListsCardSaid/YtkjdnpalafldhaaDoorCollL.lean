/-
  CollideLists: its walks. (Printed by sx_lawcoll.py.)
-/
import Derived.Test.YtkjdnpalafldhaaDoorColl5
import Derived.Test.YtkjdnpalafldhaaDoorRoot10
namespace Go.Proofs.YtkjdnpalafldhaaDoor.collideLists
open Go.RowKit Go.Proofs.YtkjdnpalafldhaaDoor

/-! ### Types -/
namespace CollL
theorem ag68 : AgT Tryd.prog 68 2 := AgT.mk' Tryd.underlying68 rfl (by kernel_rfl)
theorem sz68 : (Tryd.prog.info? 68).map (·.size) = some 2 := by kernel_rfl
theorem ze68 : ZeS Tryd.prog 68 [(1, .slice none 0 0), (1, .slice none 0 0)] := ⟨.agg _, ZeT.mk' (by kernel_rfl), rfl⟩
end CollL
open Go.Proofs.YtkjdnpalafldhaaDoor.collideLists.CollL

set_option maxRecDepth 100000 in
theorem walk_a (l r : List Pt) (a b : Option Addr) (c e : Nat) (w0 : World) (hr : Rd w0 a l.length c 1 (pts l)) (hp : ∀ p ∈ l, Rd w0 p.a p.l.length p.c 1 (bcs p.l)) (_hs : Rd w0 b r.length e 1 (pts r)) (_hq : ∀ p ∈ r, Rd w0 p.a p.l.length p.c 1 (bcs p.l)) (hb : smallB l = false) (hL : Laid w0) (h2 : 2 ≤ w0.heap.size) :
    Calls Tryd.prog 14 #[.slice a l.length c, .slice b r.length e] w0 fun e w' => e = .returned (.bool true) ∧ Kp [] w0 w' := by
  refine calls_st (F := []) (args := [.slice a l.length c, .slice b r.length e]) Tryd.func14 rfl (n := 57) rfl rfl ?_
  intro ac w HF HS
  refine wp_seq ?_
  refine wp_region_lit ?_
  refine sx_y HF HS (yl_assign rfl) rfl rfl ?_; clear HF ac; intro ac HF
  refine wpList_nil ?_
  refine then_n ?_
  refine wp_seq ?_
  refine wp_seq ?_
  refine wp_region_lit ?_
  refine sx_y HF HS (yl_move rfl) rfl rfl ?_; clear HF ac; intro ac HF
  refine sx_call HF Tryd.func43 (by kernel_rfl) (by kernel_rfl) (evs_cons rfl evs_nil) (small10_any l a c w (hr.below HS.kp) (fun p hm => (hp p hm).below HS.kp)) rfl rfl ?_; clear HF ac
  rintro _ w ⟨rfl, k1⟩
  rw [hb]
  refine ⟨_, rfl, fun ac HF => ?_⟩
  replace HS := HS.call k1
  clear k1
  refine sx_y HF HS (yl_not rfl) rfl rfl ?_; clear HF ac; intro ac HF
  refine sx_y HF HS (yl_move rfl) rfl rfl ?_; clear HF ac; intro ac HF
  refine sx_off HF rfl rfl ?_; clear HF ac; intro ac HF
  refine sx_off HF rfl rfl ?_; clear HF ac; intro ac HF
  refine sx_off HF rfl rfl ?_; clear HF ac; intro ac HF
  refine sx_y HF HS (yl_pick (b := true) rfl rfl) rfl rfl ?_; clear HF ac; intro ac HF
  refine wpList_nil ?_
  refine then_n ?_
  refine cx_true HF rfl ?_
  refine wp_seq ?_
  refine wp_region_lit ?_
  refine sx_call HF Tryd.func40 (by kernel_rfl) (by kernel_rfl) evs_nil (awake10_any w (hL.below HS.kp) (Nat.le_trans h2 HS.kp.size)) rfl rfl ?_; clear HF ac
  rintro _ w ⟨rfl, k1⟩
  refine ⟨_, rfl, fun ac HF => ?_⟩
  replace HS := HS.call k1
  clear k1
  refine sx_y HF HS (yl_assign rfl) rfl rfl ?_; clear HF ac; intro ac HF
  refine wpList_nil ?_
  refine then_n ?_
  refine wp_ret ?_
  refine then_r ?_
  exact rt1 rfl HF HS rfl ⟨rfl, HS.kp⟩

set_option maxRecDepth 100000 in
theorem walk_b (l r : List Pt) (a b : Option Addr) (c e : Nat) (w0 : World) (hr : Rd w0 a l.length c 1 (pts l)) (hp : ∀ p ∈ l, Rd w0 p.a p.l.length p.c 1 (bcs p.l)) (hs : Rd w0 b r.length e 1 (pts r)) (hq : ∀ p ∈ r, Rd w0 p.a p.l.length p.c 1 (bcs p.l)) (hb : smallB l = true) (hb2 : smallB r = false) (hL : Laid w0) (h2 : 2 ≤ w0.heap.size) :
    Calls Tryd.prog 14 #[.slice a l.length c, .slice b r.length e] w0 fun e w' => e = .returned (.bool true) ∧ Kp [] w0 w' := by
  refine calls_st (F := []) (args := [.slice a l.length c, .slice b r.length e]) Tryd.func14 rfl (n := 57) rfl rfl ?_
  intro ac w HF HS
  refine wp_seq ?_
  refine wp_region_lit ?_
  refine sx_y HF HS (yl_assign rfl) rfl rfl ?_; clear HF ac; intro ac HF
  refine wpList_nil ?_
  refine then_n ?_
  refine wp_seq ?_
  refine wp_seq ?_
  refine wp_region_lit ?_
  refine sx_y HF HS (yl_move rfl) rfl rfl ?_; clear HF ac; intro ac HF
  refine sx_call HF Tryd.func43 (by kernel_rfl) (by kernel_rfl) (evs_cons rfl evs_nil) (small10_any l a c w (hr.below HS.kp) (fun p hm => (hp p hm).below HS.kp)) rfl rfl ?_; clear HF ac
  rintro _ w ⟨rfl, k1⟩
  rw [hb]
  refine ⟨_, rfl, fun ac HF => ?_⟩
  replace HS := HS.call k1
  clear k1
  refine sx_y HF HS (yl_not rfl) rfl rfl ?_; clear HF ac; intro ac HF
  refine sx_y HF HS (yl_move rfl) rfl rfl ?_; clear HF ac; intro ac HF
  refine sx_y HF HS (yl_move rfl) rfl rfl ?_; clear HF ac; intro ac HF
  refine sx_call HF Tryd.func43 (by kernel_rfl) (by kernel_rfl) (evs_cons rfl evs_nil) (small10_any r b e w (hs.below HS.kp) (fun p hm => (hq p hm).below HS.kp)) rfl rfl ?_; clear HF ac
  rintro _ w ⟨rfl, k1⟩
  rw [hb2]
  refine ⟨_, rfl, fun ac HF => ?_⟩
  replace HS := HS.call k1
  clear k1
  refine sx_y HF HS (yl_not rfl) rfl rfl ?_; clear HF ac; intro ac HF
  refine sx_y HF HS (yl_pick (b := false) rfl rfl) rfl rfl ?_; clear HF ac; intro ac HF
  refine wpList_nil ?_
  refine then_n ?_
  refine cx_true HF rfl ?_
  refine wp_seq ?_
  refine wp_region_lit ?_
  refine sx_call HF Tryd.func40 (by kernel_rfl) (by kernel_rfl) evs_nil (awake10_any w (hL.below HS.kp) (Nat.le_trans h2 HS.kp.size)) rfl rfl ?_; clear HF ac
  rintro _ w ⟨rfl, k1⟩
  refine ⟨_, rfl, fun ac HF => ?_⟩
  replace HS := HS.call k1
  clear k1
  refine sx_y HF HS (yl_assign rfl) rfl rfl ?_; clear HF ac; intro ac HF
  refine wpList_nil ?_
  refine then_n ?_
  refine wp_ret ?_
  refine then_r ?_
  exact rt1 rfl HF HS rfl ⟨rfl, HS.kp⟩

set_option maxRecDepth 100000 in
theorem walk_c (l r : List Pt) (a b : Option Addr) (c e : Nat) (w0 : World) (hr : Rd w0 a l.length c 1 (pts l)) (hp : ∀ p ∈ l, Rd w0 p.a p.l.length p.c 1 (bcs p.l)) (hs : Rd w0 b r.length e 1 (pts r)) (hq : ∀ p ∈ r, Rd w0 p.a p.l.length p.c 1 (bcs p.l)) (hb : smallB l = true) (hb2 : smallB r = true) (h1 : ¬ l.length = r.length) (hL : Laid w0) (h2 : 2 ≤ w0.heap.size) :
    Calls Tryd.prog 14 #[.slice a l.length c, .slice b r.length e] w0 fun e w' => e = .returned (.bool true) ∧ Kp [] w0 w' := by
  obtain ⟨hsl, hll⟩ := smallB_is hb
  obtain ⟨hsr, hlr⟩ := smallB_is hb2
  have hf : foundB l r = false := decide_eq_false (fun h => h1 h.1)
  refine calls_st (F := []) (args := [.slice a l.length c, .slice b r.length e]) Tryd.func14 rfl (n := 57) rfl rfl ?_
  intro ac w HF HS
  refine wp_seq ?_
  refine wp_region_lit ?_
  refine sx_y HF HS (yl_assign rfl) rfl rfl ?_; clear HF ac; intro ac HF
  refine wpList_nil ?_
  refine then_n ?_
  refine wp_seq ?_
  refine wp_seq ?_
  refine wp_region_lit ?_
  refine sx_y HF HS (yl_move rfl) rfl rfl ?_; clear HF ac; intro ac HF
  refine sx_call HF Tryd.func43 (by kernel_rfl) (by kernel_rfl) (evs_cons rfl evs_nil) (small10_any l a c w (hr.below HS.kp) (fun p hm => (hp p hm).below HS.kp)) rfl rfl ?_; clear HF ac
  rintro _ w ⟨rfl, k1⟩
  rw [hb]
  refine ⟨_, rfl, fun ac HF => ?_⟩
  replace HS := HS.call k1
  clear k1
  refine sx_y HF HS (yl_not rfl) rfl rfl ?_; clear HF ac; intro ac HF
  refine sx_y HF HS (yl_move rfl) rfl rfl ?_; clear HF ac; intro ac HF
  refine sx_y HF HS (yl_move rfl) rfl rfl ?_; clear HF ac; intro ac HF
  refine sx_call HF Tryd.func43 (by kernel_rfl) (by kernel_rfl) (evs_cons rfl evs_nil) (small10_any r b e w (hs.below HS.kp) (fun p hm => (hq p hm).below HS.kp)) rfl rfl ?_; clear HF ac
  rintro _ w ⟨rfl, k1⟩
  rw [hb2]
  refine ⟨_, rfl, fun ac HF => ?_⟩
  replace HS := HS.call k1
  clear k1
  refine sx_y HF HS (yl_not rfl) rfl rfl ?_; clear HF ac; intro ac HF
  refine sx_y HF HS (yl_pick (b := false) rfl rfl) rfl rfl ?_; clear HF ac; intro ac HF
  refine wpList_nil ?_
  refine then_n ?_
  refine cx_false HF rfl ?_
  refine wp_skip ?_
  refine then_n ?_
  refine wp_seq ?_
  refine wp_region_lit ?_
  refine sx_y HF HS (yl_move rfl) rfl rfl ?_; clear HF ac; intro ac HF
  refine sx_y HF HS (yl_move rfl) rfl rfl ?_; clear HF ac; intro ac HF
  refine sx_call HF Tryd.func44 (by kernel_rfl) (by kernel_rfl) (evs_cons rfl (evs_cons rfl evs_nil)) (lists_any l r a b c e w (hr.below HS.kp) (fun p hm => ⟨(hp p hm).below HS.kp, by have := hsl p hm; omega⟩) (by omega) (hs.below HS.kp) (fun p hm => ⟨(hq p hm).below HS.kp, by have := hsr p hm; omega⟩) (by omega) (hL.below HS.kp) (Nat.le_trans h2 HS.kp.size)) rfl rfl ?_; clear HF ac
  rintro _ w ⟨xs, ys, a1, c1, b1, e1, rfl, k1, hrb⟩
  rw [hf] at hrb ⊢
  refine ⟨_, rfl, fun ac HF => ?_⟩
  replace HS := HS.joinR2 k1
  clear k1
  refine sx_y HF HS (yl_move rfl) rfl rfl ?_; clear HF ac; intro ac HF
  refine sx_y HF HS (yl_extract rfl rfl) rfl rfl ?_; clear HF ac; intro ac HF
  refine sx_y HF HS (yl_extract rfl rfl) rfl rfl ?_; clear HF ac; intro ac HF
  refine sx_ef HF (ef_alloc HS ze68) rfl rfl ?_; clear HF HS ac; rintro _ w ac ⟨g5, rfl, HS⟩ HF
  refine sx_ef0 HF (ef_stores HS sz68 rfl rfl rfl rfl) rfl ?_; clear HS; rintro _ w HS
  refine sx_y HF HS (yl_assign rfl) rfl rfl ?_; clear HF ac; intro ac HF
  refine wpList_nil ?_
  refine then_n ?_
  refine wp_seq ?_
  refine wp_region_lit ?_
  refine sx_y HF HS (yl_move rfl) rfl rfl ?_; clear HF ac; intro ac HF
  refine sx_y HF HS (yl_len_slice Tryd.underlying34 rfl) rfl rfl ?_; clear HF ac; intro ac HF
  refine sx_y HF HS (yl_move rfl) rfl rfl ?_; clear HF ac; intro ac HF
  refine sx_y HF HS (yl_len_slice Tryd.underlying34 rfl) rfl rfl ?_; clear HF ac; intro ac HF
  refine sx_y HF HS (yl_eql rfl rfl (decide_eq_false (by exact (by omega)))) rfl rfl ?_; clear HF ac; intro ac HF
  refine sx_y HF HS (yl_move rfl) rfl rfl ?_; clear HF ac; intro ac HF
  refine sx_off HF rfl rfl ?_; clear HF ac; intro ac HF
  refine sx_off HF rfl rfl ?_; clear HF ac; intro ac HF
  refine sx_off HF rfl rfl ?_; clear HF ac; intro ac HF
  refine sx_off HF rfl rfl ?_; clear HF ac; intro ac HF
  refine sx_off HF rfl rfl ?_; clear HF ac; intro ac HF
  refine sx_off HF rfl rfl ?_; clear HF ac; intro ac HF
  refine sx_off HF rfl rfl ?_; clear HF ac; intro ac HF
  refine sx_y HF HS (yl_pick (b := false) rfl rfl) rfl rfl ?_; clear HF ac; intro ac HF
  refine sx_y HF HS (yl_move rfl) rfl rfl ?_; clear HF ac; intro ac HF
  refine sx_off HF rfl rfl ?_; clear HF ac; intro ac HF
  refine sx_off HF rfl rfl ?_; clear HF ac; intro ac HF
  refine sx_off HF rfl rfl ?_; clear HF ac; intro ac HF
  refine sx_off HF rfl rfl ?_; clear HF ac; intro ac HF
  refine sx_y HF HS (yl_pick (b := false) rfl rfl) rfl rfl ?_; clear HF ac; intro ac HF
  refine sx_y HF HS (yl_assign rfl) rfl rfl ?_; clear HF ac; intro ac HF
  refine wpList_nil ?_
  refine then_n ?_
  refine wp_seq ?_
  refine wp_region_lit ?_
  refine sx_y HF HS (yl_move rfl) rfl rfl ?_; clear HF ac; intro ac HF
  refine sx_y HF HS (yl_move rfl) rfl rfl ?_; clear HF ac; intro ac HF
  refine sx_y HF HS (yl_eqB Tryd.underlying4 rfl rfl (decide_eq_true (by exact rfl))) rfl rfl ?_; clear HF ac; intro ac HF
  refine sx_y HF HS (yl_move rfl) rfl rfl ?_; clear HF ac; intro ac HF
  refine sx_y HF HS (yl_move rfl) rfl rfl ?_; clear HF ac; intro ac HF
  refine sx_y HF HS (yl_not rfl) rfl rfl ?_; clear HF ac; intro ac HF
  refine sx_y HF HS (yl_move rfl) rfl rfl ?_; clear HF ac; intro ac HF
  refine sx_off HF rfl rfl ?_; clear HF ac; intro ac HF
  refine sx_off HF rfl rfl ?_; clear HF ac; intro ac HF
  refine sx_y HF HS (yl_pick (b := true) rfl rfl) rfl rfl ?_; clear HF ac; intro ac HF
  refine sx_y HF HS (yl_pick (b := true) rfl rfl) rfl rfl ?_; clear HF ac; intro ac HF
  refine sx_y HF HS (yl_move rfl) rfl rfl ?_; clear HF ac; intro ac HF
  refine sx_call HF Tryd.func40 (by kernel_rfl) (by kernel_rfl) evs_nil (awake10_any w (hL.below HS.kp) (Nat.le_trans h2 HS.kp.size)) rfl rfl ?_; clear HF ac
  rintro _ w ⟨rfl, k1⟩
  refine ⟨_, rfl, fun ac HF => ?_⟩
  replace HS := HS.call k1
  clear k1
  refine sx_y HF HS (yl_pick (b := true) rfl rfl) rfl rfl ?_; clear HF ac; intro ac HF
  refine sx_y HF HS (yl_assign rfl) rfl rfl ?_; clear HF ac; intro ac HF
  refine wpList_nil ?_
  refine then_n ?_
  refine wp_ret ?_
  exact rt1 rfl HF HS rfl ⟨rfl, HS.kp⟩

set_option maxRecDepth 100000 in
theorem walk_d (l r : List Pt) (a b : Option Addr) (c e : Nat) (w0 : World) (hr : Rd w0 a l.length c 1 (pts l)) (hp : ∀ p ∈ l, Rd w0 p.a p.l.length p.c 1 (bcs p.l)) (hs : Rd w0 b r.length e 1 (pts r)) (hq : ∀ p ∈ r, Rd w0 p.a p.l.length p.c 1 (bcs p.l)) (hb : smallB l = true) (hb2 : smallB r = true) (h1 : l.length = r.length) (h3 : ¬ rootH (leavesH l) = rootH (leavesH r)) (hL : Laid w0) (h2 : 2 ≤ w0.heap.size) :
    Calls Tryd.prog 14 #[.slice a l.length c, .slice b r.length e] w0 fun e w' => e = .returned (.bool true) ∧ Kp [] w0 w' := by
  obtain ⟨hsl, hll⟩ := smallB_is hb
  obtain ⟨hsr, hlr⟩ := smallB_is hb2
  have hf : foundB l r = false := decide_eq_false (fun h => h3 h.2.1)
  refine calls_st (F := []) (args := [.slice a l.length c, .slice b r.length e]) Tryd.func14 rfl (n := 57) rfl rfl ?_
  intro ac w HF HS
  refine wp_seq ?_
  refine wp_region_lit ?_
  refine sx_y HF HS (yl_assign rfl) rfl rfl ?_; clear HF ac; intro ac HF
  refine wpList_nil ?_
  refine then_n ?_
  refine wp_seq ?_
  refine wp_seq ?_
  refine wp_region_lit ?_
  refine sx_y HF HS (yl_move rfl) rfl rfl ?_; clear HF ac; intro ac HF
  refine sx_call HF Tryd.func43 (by kernel_rfl) (by kernel_rfl) (evs_cons rfl evs_nil) (small10_any l a c w (hr.below HS.kp) (fun p hm => (hp p hm).below HS.kp)) rfl rfl ?_; clear HF ac
  rintro _ w ⟨rfl, k1⟩
  rw [hb]
  refine ⟨_, rfl, fun ac HF => ?_⟩
  replace HS := HS.call k1
  clear k1
  refine sx_y HF HS (yl_not rfl) rfl rfl ?_; clear HF ac; intro ac HF
  refine sx_y HF HS (yl_move rfl) rfl rfl ?_; clear HF ac; intro ac HF
  refine sx_y HF HS (yl_move rfl) rfl rfl ?_; clear HF ac; intro ac HF
  refine sx_call HF Tryd.func43 (by kernel_rfl) (by kernel_rfl) (evs_cons rfl evs_nil) (small10_any r b e w (hs.below HS.kp) (fun p hm => (hq p hm).below HS.kp)) rfl rfl ?_; clear HF ac
  rintro _ w ⟨rfl, k1⟩
  rw [hb2]
  refine ⟨_, rfl, fun ac HF => ?_⟩
  replace HS := HS.call k1
  clear k1
  refine sx_y HF HS (yl_not rfl) rfl rfl ?_; clear HF ac; intro ac HF
  refine sx_y HF HS (yl_pick (b := false) rfl rfl) rfl rfl ?_; clear HF ac; intro ac HF
  refine wpList_nil ?_
  refine then_n ?_
  refine cx_false HF rfl ?_
  refine wp_skip ?_
  refine then_n ?_
  refine wp_seq ?_
  refine wp_region_lit ?_
  refine sx_y HF HS (yl_move rfl) rfl rfl ?_; clear HF ac; intro ac HF
  refine sx_y HF HS (yl_move rfl) rfl rfl ?_; clear HF ac; intro ac HF
  refine sx_call HF Tryd.func44 (by kernel_rfl) (by kernel_rfl) (evs_cons rfl (evs_cons rfl evs_nil)) (lists_any l r a b c e w (hr.below HS.kp) (fun p hm => ⟨(hp p hm).below HS.kp, by have := hsl p hm; omega⟩) (by omega) (hs.below HS.kp) (fun p hm => ⟨(hq p hm).below HS.kp, by have := hsr p hm; omega⟩) (by omega) (hL.below HS.kp) (Nat.le_trans h2 HS.kp.size)) rfl rfl ?_; clear HF ac
  rintro _ w ⟨xs, ys, a1, c1, b1, e1, rfl, k1, hrb⟩
  rw [hf] at hrb ⊢
  refine ⟨_, rfl, fun ac HF => ?_⟩
  replace HS := HS.joinR2 k1
  clear k1
  refine sx_y HF HS (yl_move rfl) rfl rfl ?_; clear HF ac; intro ac HF
  refine sx_y HF HS (yl_extract rfl rfl) rfl rfl ?_; clear HF ac; intro ac HF
  refine sx_y HF HS (yl_extract rfl rfl) rfl rfl ?_; clear HF ac; intro ac HF
  refine sx_ef HF (ef_alloc HS ze68) rfl rfl ?_; clear HF HS ac; rintro _ w ac ⟨g5, rfl, HS⟩ HF
  refine sx_ef0 HF (ef_stores HS sz68 rfl rfl rfl rfl) rfl ?_; clear HS; rintro _ w HS
  refine sx_y HF HS (yl_assign rfl) rfl rfl ?_; clear HF ac; intro ac HF
  refine wpList_nil ?_
  refine then_n ?_
  refine wp_seq ?_
  refine wp_region_lit ?_
  refine sx_y HF HS (yl_move rfl) rfl rfl ?_; clear HF ac; intro ac HF
  refine sx_y HF HS (yl_len_slice Tryd.underlying34 rfl) rfl rfl ?_; clear HF ac; intro ac HF
  refine sx_y HF HS (yl_move rfl) rfl rfl ?_; clear HF ac; intro ac HF
  refine sx_y HF HS (yl_len_slice Tryd.underlying34 rfl) rfl rfl ?_; clear HF ac; intro ac HF
  refine sx_y HF HS (yl_eql rfl rfl (decide_eq_true (by exact (by omega)))) rfl rfl ?_; clear HF ac; intro ac HF
  refine sx_y HF HS (yl_move rfl) rfl rfl ?_; clear HF ac; intro ac HF
  refine sx_y HF HS (yl_move rfl) rfl rfl ?_; clear HF ac; intro ac HF
  refine sx_call HF Tryd.func46 (by kernel_rfl) (by kernel_rfl) (evs_cons rfl evs_nil) (hashes10_any l a c w (hr.below HS.kp) (fun p hm => (hp p hm).below HS.kp) (by omega) (hL.below HS.kp) (Nat.le_trans h2 HS.kp.size)) rfl rfl ?_; clear HF ac
  rintro _ w ⟨ax, cx, rfl, k1⟩
  refine ⟨_, rfl, fun ac HF => ?_⟩
  replace HS := HS.joinR1 k1
  clear k1
  refine sx_call HF Tryd.func45 (by kernel_rfl) (by kernel_rfl) (evs_cons rfl evs_nil) (root10_any (leavesH l) ax cx w HS.row0 (by rw [leavesH_length]; omega) (hL.below HS.kp) (Nat.le_trans h2 HS.kp.size)) rfl rfl ?_; clear HF ac
  rintro _ w ⟨rfl, k1⟩
  refine ⟨_, rfl, fun ac HF => ?_⟩
  replace HS := HS.call k1
  clear k1
  refine sx_y HF HS (yl_move rfl) rfl rfl ?_; clear HF ac; intro ac HF
  refine sx_call HF Tryd.func46 (by kernel_rfl) (by kernel_rfl) (evs_cons rfl evs_nil) (hashes10_any r b e w (hs.below HS.kp) (fun p hm => (hq p hm).below HS.kp) (by omega) (hL.below HS.kp) (Nat.le_trans h2 HS.kp.size)) rfl rfl ?_; clear HF ac
  rintro _ w ⟨ay, cy, rfl, k1⟩
  refine ⟨_, rfl, fun ac HF => ?_⟩
  replace HS := HS.joinR1 k1
  clear k1
  refine sx_call HF Tryd.func45 (by kernel_rfl) (by kernel_rfl) (evs_cons rfl evs_nil) (root10_any (leavesH r) ay cy w HS.row0 (by rw [leavesH_length]; omega) (hL.below HS.kp) (Nat.le_trans h2 HS.kp.size)) rfl rfl ?_; clear HF ac
  rintro _ w ⟨rfl, k1⟩
  refine ⟨_, rfl, fun ac HF => ?_⟩
  replace HS := HS.call k1
  clear k1
  refine sx_y HF HS (Tryd.yl_eqH rfl rfl (decide_eq_false (by exact h3))) rfl rfl ?_; clear HF ac; intro ac HF
  refine sx_y HF HS (yl_pick (b := true) rfl rfl) rfl rfl ?_; clear HF ac; intro ac HF
  refine sx_y HF HS (yl_move rfl) rfl rfl ?_; clear HF ac; intro ac HF
  refine sx_off HF rfl rfl ?_; clear HF ac; intro ac HF
  refine sx_off HF rfl rfl ?_; clear HF ac; intro ac HF
  refine sx_off HF rfl rfl ?_; clear HF ac; intro ac HF
  refine sx_off HF rfl rfl ?_; clear HF ac; intro ac HF
  refine sx_y HF HS (yl_pick (b := false) rfl rfl) rfl rfl ?_; clear HF ac; intro ac HF
  refine sx_y HF HS (yl_assign rfl) rfl rfl ?_; clear HF ac; intro ac HF
  refine wpList_nil ?_
  refine then_n ?_
  refine wp_seq ?_
  refine wp_region_lit ?_
  refine sx_y HF HS (yl_move rfl) rfl rfl ?_; clear HF ac; intro ac HF
  refine sx_y HF HS (yl_move rfl) rfl rfl ?_; clear HF ac; intro ac HF
  refine sx_y HF HS (yl_eqB Tryd.underlying4 rfl rfl (decide_eq_true (by exact rfl))) rfl rfl ?_; clear HF ac; intro ac HF
  refine sx_y HF HS (yl_move rfl) rfl rfl ?_; clear HF ac; intro ac HF
  refine sx_y HF HS (yl_move rfl) rfl rfl ?_; clear HF ac; intro ac HF
  refine sx_y HF HS (yl_not rfl) rfl rfl ?_; clear HF ac; intro ac HF
  refine sx_y HF HS (yl_move rfl) rfl rfl ?_; clear HF ac; intro ac HF
  refine sx_off HF rfl rfl ?_; clear HF ac; intro ac HF
  refine sx_off HF rfl rfl ?_; clear HF ac; intro ac HF
  refine sx_y HF HS (yl_pick (b := true) rfl rfl) rfl rfl ?_; clear HF ac; intro ac HF
  refine sx_y HF HS (yl_pick (b := true) rfl rfl) rfl rfl ?_; clear HF ac; intro ac HF
  refine sx_y HF HS (yl_move rfl) rfl rfl ?_; clear HF ac; intro ac HF
  refine sx_call HF Tryd.func40 (by kernel_rfl) (by kernel_rfl) evs_nil (awake10_any w (hL.below HS.kp) (Nat.le_trans h2 HS.kp.size)) rfl rfl ?_; clear HF ac
  rintro _ w ⟨rfl, k1⟩
  refine ⟨_, rfl, fun ac HF => ?_⟩
  replace HS := HS.call k1
  clear k1
  refine sx_y HF HS (yl_pick (b := true) rfl rfl) rfl rfl ?_; clear HF ac; intro ac HF
  refine sx_y HF HS (yl_assign rfl) rfl rfl ?_; clear HF ac; intro ac HF
  refine wpList_nil ?_
  refine then_n ?_
  refine wp_ret ?_
  exact rt1 rfl HF HS rfl ⟨rfl, HS.kp⟩

set_option maxRecDepth 100000 in
theorem walk_e (l r : List Pt) (a b : Option Addr) (c e : Nat) (w0 : World) (hr : Rd w0 a l.length c 1 (pts l)) (hp : ∀ p ∈ l, Rd w0 p.a p.l.length p.c 1 (bcs p.l)) (hs : Rd w0 b r.length e 1 (pts r)) (hq : ∀ p ∈ r, Rd w0 p.a p.l.length p.c 1 (bcs p.l)) (hb : smallB l = true) (hb2 : smallB r = true) (h1 : l.length = r.length) (h3 : rootH (leavesH l) = rootH (leavesH r)) (h4 : bsOf l = bsOf r) (hL : Laid w0) (h2 : 2 ≤ w0.heap.size) :
    Calls Tryd.prog 14 #[.slice a l.length c, .slice b r.length e] w0 fun e w' => e = .returned (.bool true) ∧ Kp [] w0 w' := by
  obtain ⟨hsl, hll⟩ := smallB_is hb
  obtain ⟨hsr, hlr⟩ := smallB_is hb2
  have hf : foundB l r = false := decide_eq_false (fun h => h.2.2 h4)
  refine calls_st (F := []) (args := [.slice a l.length c, .slice b r.length e]) Tryd.func14 rfl (n := 57) rfl rfl ?_
  intro ac w HF HS
  refine wp_seq ?_
  refine wp_region_lit ?_
  refine sx_y HF HS (yl_assign rfl) rfl rfl ?_; clear HF ac; intro ac HF
  refine wpList_nil ?_
  refine then_n ?_
  refine wp_seq ?_
  refine wp_seq ?_
  refine wp_region_lit ?_
  refine sx_y HF HS (yl_move rfl) rfl rfl ?_; clear HF ac; intro ac HF
  refine sx_call HF Tryd.func43 (by kernel_rfl) (by kernel_rfl) (evs_cons rfl evs_nil) (small10_any l a c w (hr.below HS.kp) (fun p hm => (hp p hm).below HS.kp)) rfl rfl ?_; clear HF ac
  rintro _ w ⟨rfl, k1⟩
  rw [hb]
  refine ⟨_, rfl, fun ac HF => ?_⟩
  replace HS := HS.call k1
  clear k1
  refine sx_y HF HS (yl_not rfl) rfl rfl ?_; clear HF ac; intro ac HF
  refine sx_y HF HS (yl_move rfl) rfl rfl ?_; clear HF ac; intro ac HF
  refine sx_y HF HS (yl_move rfl) rfl rfl ?_; clear HF ac; intro ac HF
  refine sx_call HF Tryd.func43 (by kernel_rfl) (by kernel_rfl) (evs_cons rfl evs_nil) (small10_any r b e w (hs.below HS.kp) (fun p hm => (hq p hm).below HS.kp)) rfl rfl ?_; clear HF ac
  rintro _ w ⟨rfl, k1⟩
  rw [hb2]
  refine ⟨_, rfl, fun ac HF => ?_⟩
  replace HS := HS.call k1
  clear k1
  refine sx_y HF HS (yl_not rfl) rfl rfl ?_; clear HF ac; intro ac HF
  refine sx_y HF HS (yl_pick (b := false) rfl rfl) rfl rfl ?_; clear HF ac; intro ac HF
  refine wpList_nil ?_
  refine then_n ?_
  refine cx_false HF rfl ?_
  refine wp_skip ?_
  refine then_n ?_
  refine wp_seq ?_
  refine wp_region_lit ?_
  refine sx_y HF HS (yl_move rfl) rfl rfl ?_; clear HF ac; intro ac HF
  refine sx_y HF HS (yl_move rfl) rfl rfl ?_; clear HF ac; intro ac HF
  refine sx_call HF Tryd.func44 (by kernel_rfl) (by kernel_rfl) (evs_cons rfl (evs_cons rfl evs_nil)) (lists_any l r a b c e w (hr.below HS.kp) (fun p hm => ⟨(hp p hm).below HS.kp, by have := hsl p hm; omega⟩) (by omega) (hs.below HS.kp) (fun p hm => ⟨(hq p hm).below HS.kp, by have := hsr p hm; omega⟩) (by omega) (hL.below HS.kp) (Nat.le_trans h2 HS.kp.size)) rfl rfl ?_; clear HF ac
  rintro _ w ⟨xs, ys, a1, c1, b1, e1, rfl, k1, hrb⟩
  rw [hf] at hrb ⊢
  refine ⟨_, rfl, fun ac HF => ?_⟩
  replace HS := HS.joinR2 k1
  clear k1
  refine sx_y HF HS (yl_move rfl) rfl rfl ?_; clear HF ac; intro ac HF
  refine sx_y HF HS (yl_extract rfl rfl) rfl rfl ?_; clear HF ac; intro ac HF
  refine sx_y HF HS (yl_extract rfl rfl) rfl rfl ?_; clear HF ac; intro ac HF
  refine sx_ef HF (ef_alloc HS ze68) rfl rfl ?_; clear HF HS ac; rintro _ w ac ⟨g5, rfl, HS⟩ HF
  refine sx_ef0 HF (ef_stores HS sz68 rfl rfl rfl rfl) rfl ?_; clear HS; rintro _ w HS
  refine sx_y HF HS (yl_assign rfl) rfl rfl ?_; clear HF ac; intro ac HF
  refine wpList_nil ?_
  refine then_n ?_
  refine wp_seq ?_
  refine wp_region_lit ?_
  refine sx_y HF HS (yl_move rfl) rfl rfl ?_; clear HF ac; intro ac HF
  refine sx_y HF HS (yl_len_slice Tryd.underlying34 rfl) rfl rfl ?_; clear HF ac; intro ac HF
  refine sx_y HF HS (yl_move rfl) rfl rfl ?_; clear HF ac; intro ac HF
  refine sx_y HF HS (yl_len_slice Tryd.underlying34 rfl) rfl rfl ?_; clear HF ac; intro ac HF
  refine sx_y HF HS (yl_eql rfl rfl (decide_eq_true (by exact (by omega)))) rfl rfl ?_; clear HF ac; intro ac HF
  refine sx_y HF HS (yl_move rfl) rfl rfl ?_; clear HF ac; intro ac HF
  refine sx_y HF HS (yl_move rfl) rfl rfl ?_; clear HF ac; intro ac HF
  refine sx_call HF Tryd.func46 (by kernel_rfl) (by kernel_rfl) (evs_cons rfl evs_nil) (hashes10_any l a c w (hr.below HS.kp) (fun p hm => (hp p hm).below HS.kp) (by omega) (hL.below HS.kp) (Nat.le_trans h2 HS.kp.size)) rfl rfl ?_; clear HF ac
  rintro _ w ⟨ax, cx, rfl, k1⟩
  refine ⟨_, rfl, fun ac HF => ?_⟩
  replace HS := HS.joinR1 k1
  clear k1
  refine sx_call HF Tryd.func45 (by kernel_rfl) (by kernel_rfl) (evs_cons rfl evs_nil) (root10_any (leavesH l) ax cx w HS.row0 (by rw [leavesH_length]; omega) (hL.below HS.kp) (Nat.le_trans h2 HS.kp.size)) rfl rfl ?_; clear HF ac
  rintro _ w ⟨rfl, k1⟩
  refine ⟨_, rfl, fun ac HF => ?_⟩
  replace HS := HS.call k1
  clear k1
  refine sx_y HF HS (yl_move rfl) rfl rfl ?_; clear HF ac; intro ac HF
  refine sx_call HF Tryd.func46 (by kernel_rfl) (by kernel_rfl) (evs_cons rfl evs_nil) (hashes10_any r b e w (hs.below HS.kp) (fun p hm => (hq p hm).below HS.kp) (by omega) (hL.below HS.kp) (Nat.le_trans h2 HS.kp.size)) rfl rfl ?_; clear HF ac
  rintro _ w ⟨ay, cy, rfl, k1⟩
  refine ⟨_, rfl, fun ac HF => ?_⟩
  replace HS := HS.joinR1 k1
  clear k1
  refine sx_call HF Tryd.func45 (by kernel_rfl) (by kernel_rfl) (evs_cons rfl evs_nil) (root10_any (leavesH r) ay cy w HS.row0 (by rw [leavesH_length]; omega) (hL.below HS.kp) (Nat.le_trans h2 HS.kp.size)) rfl rfl ?_; clear HF ac
  rintro _ w ⟨rfl, k1⟩
  refine ⟨_, rfl, fun ac HF => ?_⟩
  replace HS := HS.call k1
  clear k1
  refine sx_y HF HS (Tryd.yl_eqH rfl rfl (decide_eq_true (by exact h3))) rfl rfl ?_; clear HF ac; intro ac HF
  refine sx_y HF HS (yl_pick (b := true) rfl rfl) rfl rfl ?_; clear HF ac; intro ac HF
  refine sx_y HF HS (yl_move rfl) rfl rfl ?_; clear HF ac; intro ac HF
  refine sx_y HF HS (yl_move rfl) rfl rfl ?_; clear HF ac; intro ac HF
  refine sx_y HF HS (yl_move rfl) rfl rfl ?_; clear HF ac; intro ac HF
  refine sx_call HF Tryd.func47 (by kernel_rfl) (by kernel_rfl) (evs_cons rfl (evs_cons rfl evs_nil)) (same10_any l a c r b e w (hr.below HS.kp) (fun p hm => (hp p hm).below HS.kp) (hs.below HS.kp) (fun p hm => (hq p hm).below HS.kp)) rfl rfl ?_; clear HF ac
  rintro _ w ⟨rfl, k1⟩
  rw [decide_eq_true h4]
  refine ⟨_, rfl, fun ac HF => ?_⟩
  replace HS := HS.call k1
  clear k1
  refine sx_y HF HS (yl_not rfl) rfl rfl ?_; clear HF ac; intro ac HF
  refine sx_y HF HS (yl_pick (b := true) rfl rfl) rfl rfl ?_; clear HF ac; intro ac HF
  refine sx_y HF HS (yl_assign rfl) rfl rfl ?_; clear HF ac; intro ac HF
  refine wpList_nil ?_
  refine then_n ?_
  refine wp_seq ?_
  refine wp_region_lit ?_
  refine sx_y HF HS (yl_move rfl) rfl rfl ?_; clear HF ac; intro ac HF
  refine sx_y HF HS (yl_move rfl) rfl rfl ?_; clear HF ac; intro ac HF
  refine sx_y HF HS (yl_eqB Tryd.underlying4 rfl rfl (decide_eq_true (by exact rfl))) rfl rfl ?_; clear HF ac; intro ac HF
  refine sx_y HF HS (yl_move rfl) rfl rfl ?_; clear HF ac; intro ac HF
  refine sx_y HF HS (yl_move rfl) rfl rfl ?_; clear HF ac; intro ac HF
  refine sx_y HF HS (yl_not rfl) rfl rfl ?_; clear HF ac; intro ac HF
  refine sx_y HF HS (yl_move rfl) rfl rfl ?_; clear HF ac; intro ac HF
  refine sx_off HF rfl rfl ?_; clear HF ac; intro ac HF
  refine sx_off HF rfl rfl ?_; clear HF ac; intro ac HF
  refine sx_y HF HS (yl_pick (b := true) rfl rfl) rfl rfl ?_; clear HF ac; intro ac HF
  refine sx_y HF HS (yl_pick (b := true) rfl rfl) rfl rfl ?_; clear HF ac; intro ac HF
  refine sx_y HF HS (yl_move rfl) rfl rfl ?_; clear HF ac; intro ac HF
  refine sx_call HF Tryd.func40 (by kernel_rfl) (by kernel_rfl) evs_nil (awake10_any w (hL.below HS.kp) (Nat.le_trans h2 HS.kp.size)) rfl rfl ?_; clear HF ac
  rintro _ w ⟨rfl, k1⟩
  refine ⟨_, rfl, fun ac HF => ?_⟩
  replace HS := HS.call k1
  clear k1
  refine sx_y HF HS (yl_pick (b := true) rfl rfl) rfl rfl ?_; clear HF ac; intro ac HF
  refine sx_y HF HS (yl_assign rfl) rfl rfl ?_; clear HF ac; intro ac HF
  refine wpList_nil ?_
  refine then_n ?_
  refine wp_ret ?_
  exact rt1 rfl HF HS rfl ⟨rfl, HS.kp⟩

set_option maxRecDepth 100000 in
theorem walk_f (l r : List Pt) (a b : Option Addr) (c e : Nat) (w0 : World) (hr : Rd w0 a l.length c 1 (pts l)) (hp : ∀ p ∈ l, Rd w0 p.a p.l.length p.c 1 (bcs p.l)) (hs : Rd w0 b r.length e 1 (pts r)) (hq : ∀ p ∈ r, Rd w0 p.a p.l.length p.c 1 (bcs p.l)) (hb : smallB l = true) (hb2 : smallB r = true) (h1 : l.length = r.length) (h3 : rootH (leavesH l) = rootH (leavesH r)) (h4 : ¬ bsOf l = bsOf r) (hL : Laid w0) (h2 : 2 ≤ w0.heap.size) :
    Calls Tryd.prog 14 #[.slice a l.length c, .slice b r.length e] w0 fun e w' => e = .returned (.bool true) ∧ Kp [] w0 w' := by
  obtain ⟨hsl, hll⟩ := smallB_is hb
  obtain ⟨hsr, hlr⟩ := smallB_is hb2
  have hf : foundB l r = true := decide_eq_true ⟨h1, h3, h4⟩
  refine calls_st (F := []) (args := [.slice a l.length c, .slice b r.length e]) Tryd.func14 rfl (n := 57) rfl rfl ?_
  intro ac w HF HS
  refine wp_seq ?_
  refine wp_region_lit ?_
  refine sx_y HF HS (yl_assign rfl) rfl rfl ?_; clear HF ac; intro ac HF
  refine wpList_nil ?_
  refine then_n ?_
  refine wp_seq ?_
  refine wp_seq ?_
  refine wp_region_lit ?_
  refine sx_y HF HS (yl_move rfl) rfl rfl ?_; clear HF ac; intro ac HF
  refine sx_call HF Tryd.func43 (by kernel_rfl) (by kernel_rfl) (evs_cons rfl evs_nil) (small10_any l a c w (hr.below HS.kp) (fun p hm => (hp p hm).below HS.kp)) rfl rfl ?_; clear HF ac
  rintro _ w ⟨rfl, k1⟩
  rw [hb]
  refine ⟨_, rfl, fun ac HF => ?_⟩
  replace HS := HS.call k1
  clear k1
  refine sx_y HF HS (yl_not rfl) rfl rfl ?_; clear HF ac; intro ac HF
  refine sx_y HF HS (yl_move rfl) rfl rfl ?_; clear HF ac; intro ac HF
  refine sx_y HF HS (yl_move rfl) rfl rfl ?_; clear HF ac; intro ac HF
  refine sx_call HF Tryd.func43 (by kernel_rfl) (by kernel_rfl) (evs_cons rfl evs_nil) (small10_any r b e w (hs.below HS.kp) (fun p hm => (hq p hm).below HS.kp)) rfl rfl ?_; clear HF ac
  rintro _ w ⟨rfl, k1⟩
  rw [hb2]
  refine ⟨_, rfl, fun ac HF => ?_⟩
  replace HS := HS.call k1
  clear k1
  refine sx_y HF HS (yl_not rfl) rfl rfl ?_; clear HF ac; intro ac HF
  refine sx_y HF HS (yl_pick (b := false) rfl rfl) rfl rfl ?_; clear HF ac; intro ac HF
  refine wpList_nil ?_
  refine then_n ?_
  refine cx_false HF rfl ?_
  refine wp_skip ?_
  refine then_n ?_
  refine wp_seq ?_
  refine wp_region_lit ?_
  refine sx_y HF HS (yl_move rfl) rfl rfl ?_; clear HF ac; intro ac HF
  refine sx_y HF HS (yl_move rfl) rfl rfl ?_; clear HF ac; intro ac HF
  refine sx_call HF Tryd.func44 (by kernel_rfl) (by kernel_rfl) (evs_cons rfl (evs_cons rfl evs_nil)) (lists_any l r a b c e w (hr.below HS.kp) (fun p hm => ⟨(hp p hm).below HS.kp, by have := hsl p hm; omega⟩) (by omega) (hs.below HS.kp) (fun p hm => ⟨(hq p hm).below HS.kp, by have := hsr p hm; omega⟩) (by omega) (hL.below HS.kp) (Nat.le_trans h2 HS.kp.size)) rfl rfl ?_; clear HF ac
  rintro _ w ⟨xs, ys, a1, c1, b1, e1, rfl, k1, hrb⟩
  rw [hf] at hrb ⊢
  refine ⟨_, rfl, fun ac HF => ?_⟩
  replace HS := HS.joinR2 k1
  clear k1
  refine sx_y HF HS (yl_move rfl) rfl rfl ?_; clear HF ac; intro ac HF
  refine sx_y HF HS (yl_extract rfl rfl) rfl rfl ?_; clear HF ac; intro ac HF
  refine sx_y HF HS (yl_extract rfl rfl) rfl rfl ?_; clear HF ac; intro ac HF
  refine sx_ef HF (ef_alloc HS ze68) rfl rfl ?_; clear HF HS ac; rintro _ w ac ⟨g5, rfl, HS⟩ HF
  refine sx_ef0 HF (ef_stores HS sz68 rfl rfl rfl rfl) rfl ?_; clear HS; rintro _ w HS
  refine sx_y HF HS (yl_assign rfl) rfl rfl ?_; clear HF ac; intro ac HF
  refine wpList_nil ?_
  refine then_n ?_
  refine wp_seq ?_
  refine wp_region_lit ?_
  refine sx_y HF HS (yl_move rfl) rfl rfl ?_; clear HF ac; intro ac HF
  refine sx_y HF HS (yl_len_slice Tryd.underlying34 rfl) rfl rfl ?_; clear HF ac; intro ac HF
  refine sx_y HF HS (yl_move rfl) rfl rfl ?_; clear HF ac; intro ac HF
  refine sx_y HF HS (yl_len_slice Tryd.underlying34 rfl) rfl rfl ?_; clear HF ac; intro ac HF
  refine sx_y HF HS (yl_eql rfl rfl (decide_eq_true (by exact (by omega)))) rfl rfl ?_; clear HF ac; intro ac HF
  refine sx_y HF HS (yl_move rfl) rfl rfl ?_; clear HF ac; intro ac HF
  refine sx_y HF HS (yl_move rfl) rfl rfl ?_; clear HF ac; intro ac HF
  refine sx_call HF Tryd.func46 (by kernel_rfl) (by kernel_rfl) (evs_cons rfl evs_nil) (hashes10_any l a c w (hr.below HS.kp) (fun p hm => (hp p hm).below HS.kp) (by omega) (hL.below HS.kp) (Nat.le_trans h2 HS.kp.size)) rfl rfl ?_; clear HF ac
  rintro _ w ⟨ax, cx, rfl, k1⟩
  refine ⟨_, rfl, fun ac HF => ?_⟩
  replace HS := HS.joinR1 k1
  clear k1
  refine sx_call HF Tryd.func45 (by kernel_rfl) (by kernel_rfl) (evs_cons rfl evs_nil) (root10_any (leavesH l) ax cx w HS.row0 (by rw [leavesH_length]; omega) (hL.below HS.kp) (Nat.le_trans h2 HS.kp.size)) rfl rfl ?_; clear HF ac
  rintro _ w ⟨rfl, k1⟩
  refine ⟨_, rfl, fun ac HF => ?_⟩
  replace HS := HS.call k1
  clear k1
  refine sx_y HF HS (yl_move rfl) rfl rfl ?_; clear HF ac; intro ac HF
  refine sx_call HF Tryd.func46 (by kernel_rfl) (by kernel_rfl) (evs_cons rfl evs_nil) (hashes10_any r b e w (hs.below HS.kp) (fun p hm => (hq p hm).below HS.kp) (by omega) (hL.below HS.kp) (Nat.le_trans h2 HS.kp.size)) rfl rfl ?_; clear HF ac
  rintro _ w ⟨ay, cy, rfl, k1⟩
  refine ⟨_, rfl, fun ac HF => ?_⟩
  replace HS := HS.joinR1 k1
  clear k1
  refine sx_call HF Tryd.func45 (by kernel_rfl) (by kernel_rfl) (evs_cons rfl evs_nil) (root10_any (leavesH r) ay cy w HS.row0 (by rw [leavesH_length]; omega) (hL.below HS.kp) (Nat.le_trans h2 HS.kp.size)) rfl rfl ?_; clear HF ac
  rintro _ w ⟨rfl, k1⟩
  refine ⟨_, rfl, fun ac HF => ?_⟩
  replace HS := HS.call k1
  clear k1
  refine sx_y HF HS (Tryd.yl_eqH rfl rfl (decide_eq_true (by exact h3))) rfl rfl ?_; clear HF ac; intro ac HF
  refine sx_y HF HS (yl_pick (b := true) rfl rfl) rfl rfl ?_; clear HF ac; intro ac HF
  refine sx_y HF HS (yl_move rfl) rfl rfl ?_; clear HF ac; intro ac HF
  refine sx_y HF HS (yl_move rfl) rfl rfl ?_; clear HF ac; intro ac HF
  refine sx_y HF HS (yl_move rfl) rfl rfl ?_; clear HF ac; intro ac HF
  refine sx_call HF Tryd.func47 (by kernel_rfl) (by kernel_rfl) (evs_cons rfl (evs_cons rfl evs_nil)) (same10_any l a c r b e w (hr.below HS.kp) (fun p hm => (hp p hm).below HS.kp) (hs.below HS.kp) (fun p hm => (hq p hm).below HS.kp)) rfl rfl ?_; clear HF ac
  rintro _ w ⟨rfl, k1⟩
  rw [decide_eq_false h4]
  refine ⟨_, rfl, fun ac HF => ?_⟩
  replace HS := HS.call k1
  clear k1
  refine sx_y HF HS (yl_not rfl) rfl rfl ?_; clear HF ac; intro ac HF
  refine sx_y HF HS (yl_pick (b := true) rfl rfl) rfl rfl ?_; clear HF ac; intro ac HF
  refine sx_y HF HS (yl_assign rfl) rfl rfl ?_; clear HF ac; intro ac HF
  refine wpList_nil ?_
  refine then_n ?_
  refine wp_seq ?_
  refine wp_region_lit ?_
  refine sx_y HF HS (yl_move rfl) rfl rfl ?_; clear HF ac; intro ac HF
  refine sx_y HF HS (yl_move rfl) rfl rfl ?_; clear HF ac; intro ac HF
  refine sx_y HF HS (yl_eqB Tryd.underlying4 rfl rfl (decide_eq_true (by exact rfl))) rfl rfl ?_; clear HF ac; intro ac HF
  refine sx_y HF HS (yl_move rfl) rfl rfl ?_; clear HF ac; intro ac HF
  refine sx_y HF HS (yl_move rfl) rfl rfl ?_; clear HF ac; intro ac HF
  refine sx_y HF HS (yl_not rfl) rfl rfl ?_; clear HF ac; intro ac HF
  refine sx_y HF HS (yl_move rfl) rfl rfl ?_; clear HF ac; intro ac HF
  refine sx_y HF HS (ld_all ag68 rfl rfl) rfl rfl ?_; clear HF ac; intro ac HF
  refine sx_call HF Tryd.func42 (by kernel_rfl) (by kernel_rfl) (evs_cons rfl evs_nil) (right10_any xs ys a1 b1 c1 e1 w HS.r2.row1 HS.r2.row0 (hL.below HS.kp) (Nat.le_trans h2 HS.kp.size)) rfl rfl ?_; clear HF ac
  rintro _ w ⟨rfl, k1⟩
  rw [hrb rfl]
  refine ⟨_, rfl, fun ac HF => ?_⟩
  replace HS := HS.call k1
  clear k1
  refine sx_y HF HS (yl_pick (b := false) rfl rfl) rfl rfl ?_; clear HF ac; intro ac HF
  refine sx_y HF HS (yl_pick (b := true) rfl rfl) rfl rfl ?_; clear HF ac; intro ac HF
  refine sx_y HF HS (yl_move rfl) rfl rfl ?_; clear HF ac; intro ac HF
  refine sx_call HF Tryd.func40 (by kernel_rfl) (by kernel_rfl) evs_nil (awake10_any w (hL.below HS.kp) (Nat.le_trans h2 HS.kp.size)) rfl rfl ?_; clear HF ac
  rintro _ w ⟨rfl, k1⟩
  refine ⟨_, rfl, fun ac HF => ?_⟩
  replace HS := HS.call k1
  clear k1
  refine sx_y HF HS (yl_pick (b := true) rfl rfl) rfl rfl ?_; clear HF ac; intro ac HF
  refine sx_y HF HS (yl_assign rfl) rfl rfl ?_; clear HF ac; intro ac HF
  refine wpList_nil ?_
  refine then_n ?_
  refine wp_ret ?_
  exact rt1 rfl HF HS rfl ⟨rfl, HS.kp⟩

theorem walk (l r : List Pt) (a b : Option Addr) (c e : Nat) (w0 : World) (hr : Rd w0 a l.length c 1 (pts l)) (hp : ∀ p ∈ l, Rd w0 p.a p.l.length p.c 1 (bcs p.l)) (hs : Rd w0 b r.length e 1 (pts r)) (hq : ∀ p ∈ r, Rd w0 p.a p.l.length p.c 1 (bcs p.l)) (hL : Laid w0) (h2 : 2 ≤ w0.heap.size) :
    Calls Tryd.prog 14 #[.slice a l.length c, .slice b r.length e] w0 fun e w' => e = .returned (.bool true) ∧ Kp [] w0 w' := by
  cases hb : smallB l with
  | false => exact walk_a l r a b c e w0 hr hp hs hq hb hL h2
  | true =>
    cases hb2 : smallB r with
    | false => exact walk_b l r a b c e w0 hr hp hs hq hb hb2 hL h2
    | true =>
      by_cases h1 : l.length = r.length
      · by_cases h3 : rootH (leavesH l) = rootH (leavesH r)
        · by_cases h4 : bsOf l = bsOf r
          · exact walk_e l r a b c e w0 hr hp hs hq hb hb2 h1 h3 h4 hL h2
          · exact walk_f l r a b c e w0 hr hp hs hq hb hb2 h1 h3 h4 hL h2
        · exact walk_d l r a b c e w0 hr hp hs hq hb hb2 h1 h3 hL h2
      · exact walk_c l r a b c e w0 hr hp hs hq hb hb2 h1 hL h2

end Go.Proofs.YtkjdnpalafldhaaDoor.collideLists
