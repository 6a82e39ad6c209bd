/-
  CollideOn: its walks. (Printed by sx_collon.py.)
-/
import Derived.Test.YtalnkhgonfcabaaDoorColl8
import Derived.Test.YtalnkhgonfcabaaDoorPrf12
namespace Go.Proofs.YtalnkhgonfcabaaDoor
open Go.RowKit

/-! ### Types -/
namespace Coll9
theorem ag33 : AgT Tryd.prog 33 32 := AgT.mk' Tryd.underlying33 rfl (by kernel_rfl)
theorem ag85 : AgT Tryd.prog 85 2 := AgT.mk' Tryd.underlying85 rfl (by kernel_rfl)
theorem ag142 : AgT Tryd.prog 142 64 := AgT.mk' Tryd.underlying142 rfl (by kernel_rfl)
theorem fd93x0 : FdT Tryd.prog 93 0 0 := FdT.mk' (k := 0) Tryd.underlying93 (by kernel_rfl)
theorem fd93x1 : FdT Tryd.prog 93 1 1 := FdT.mk' (k := 0) Tryd.underlying93 (by kernel_rfl)
theorem fd93x2 : FdT Tryd.prog 93 2 2 := FdT.mk' (k := 0) Tryd.underlying93 (by kernel_rfl)
theorem sc22 : ScT Tryd.prog 22 := ScT.mk' Tryd.underlying22 rfl (by kernel_rfl)
theorem sc61 : ScT Tryd.prog 61 := ScT.mk' Tryd.underlying61 rfl (by kernel_rfl)
theorem sz33 : (Tryd.prog.info? 33).map (·.size) = some 32 := by kernel_rfl
theorem sz39 : (Tryd.prog.info? 39).map (·.size) = some 1 := by kernel_rfl
theorem sz85 : (Tryd.prog.info? 85).map (·.size) = some 2 := by kernel_rfl
theorem sz142 : (Tryd.prog.info? 142).map (·.size) = some 64 := by kernel_rfl
theorem ze33 : ZeS Tryd.prog 33 [(32, hv zeroH)] := ⟨hv zeroH, ZeT.mk' (by kernel_rfl), (sgA_h zeroH).symm⟩
theorem ze85 : ZeS Tryd.prog 85 [(1, .slice none 0 0), (1, .slice none 0 0)] := ⟨.agg _, ZeT.mk' (by kernel_rfl), rfl⟩
theorem ze142 : ZeS Tryd.prog 142 [(32, hv zeroH), (32, hv zeroH)] := ⟨.agg _, ZeT.mk' (by kernel_rfl), rfl⟩
end Coll9
open Go.Proofs.YtalnkhgonfcabaaDoor.Coll9

theorem sp_same {m n : Nat} (h1 : sp n < m) (h2 : m ≤ n) (hn : 2 ≤ n) (hb : n ≤ 9223372036854775808) (hm : 2 ≤ m) : sp m = sp n := by
  obtain ⟨a1, _, _, a4, a5⟩ := sp_spec n hn hb
  obtain ⟨b1, _, _, b4, b5⟩ := sp_spec m hm (by omega)
  unfold sp at *
  have e1 := Nat.pow_succ' (m := Lib.bitLen (n - 1) - 1) (n := 2)
  have e2 := Nat.pow_succ' (m := Lib.bitLen (m - 1) - 1) (n := 2)
  have h3 := (Nat.pow_lt_pow_iff_right (a := 2) (by decide)).1 (show 2 ^ (Lib.bitLen (n - 1) - 1) < 2 ^ (Lib.bitLen (m - 1) - 1 + 1) by omega)
  have h4 := (Nat.pow_lt_pow_iff_right (a := 2) (by decide)).1 (show 2 ^ (Lib.bitLen (m - 1) - 1) < 2 ^ (Lib.bitLen (n - 1) - 1 + 1) by omega)
  rw [show Lib.bitLen (m - 1) - 1 = Lib.bitLen (n - 1) - 1 by omega]
theorem root_two (Y : List Pt) (k : Nat) (hk : sp Y.length = k) (h2 : 2 ≤ Y.length) (hb : Y.length ≤ 100000) : rootH (leavesH Y) = nodeH (rootH (leavesH (Y.take k))) (rootH (leavesH (Y.drop k))) := by
  have hl := leavesH_length Y
  have h := rootH_split (leavesH Y) (by omega) (by omega)
  rw [hl, hk, ← leavesH_take, ← leavesH_drop] at h
  exact h
theorem gen_roots {f m n : Nat} {own : Bool} {old : Hsh} {ps : List Hsh} {x y : Hsh} (hmn : n ≤ m) (h : genF (ownF (f + 1) m n own) (stepF (f + 1) m n) old ps = some (x, y)) : x = y := by
  obtain ⟨e1, e2⟩ := gen_end hmn h
  cases own with
  | true => obtain ⟨h1, h2⟩ := Prod.mk.inj (e1 rfl).2; rw [h1, h2]
  | false => obtain ⟨q, _, hq⟩ := e2 rfl; obtain ⟨h1, h2⟩ := Prod.mk.inj hq; rw [h1, h2]
theorem part_ne {X Y : List Pt} {k : Nat} (hk : k ≤ X.length) (hne : ¬ bsOf X = bsOf (Y.take X.length)) (heq : bsOf (X.take k) = bsOf (Y.take k)) : ¬ bsOf (X.drop k) = bsOf ((Y.drop k).take (X.drop k).length) := fun h => hne (by
  rw [bsOf_split X (Y.take X.length) k]
  refine ⟨?_, ?_⟩
  · rw [List.take_take, Nat.min_eq_left hk]; exact heq
  · rw [List.drop_take]; rw [List.length_drop] at h; exact h)
theorem part_ne2 {X Y : List Pt} {k : Nat} (hk : X.length ≤ k) (hne : ¬ bsOf X = bsOf (Y.take X.length)) : ¬ bsOf X = bsOf ((Y.take k).take X.length) := by
  rw [List.take_take, Nat.min_eq_left hk]; exact hne

set_option maxRecDepth 100000 in
set_option maxHeartbeats 1000000 in
theorem grown_any (l r : List Pt) (ps : List Hsh) (a b p : Option Addr) (c e q : Nat) (w0 : World) (hr : Rd w0 a l.length c 1 (pts l)) (hp : ∀ p ∈ l, Rd w0 p.a p.l.length p.c 1 (bcs p.l) ∧ p.l.length ≤ 1099511627775) (hll : l.length ≤ 100000) (hs : Rd w0 b r.length e 1 (pts r)) (hq : ∀ p ∈ r, Rd w0 p.a p.l.length p.c 1 (bcs p.l) ∧ p.l.length ≤ 1099511627775) (hlr : r.length ≤ 100000) (hps : Rd w0 p ps.length q 32 (hsc ps)) (h10 : 1 ≤ l.length) (hle0 : l.length ≤ r.length) (hg0 : genF (ownF r.length l.length r.length true) (stepF r.length l.length r.length) (rootH (leavesH l)) ps = some (rootH (leavesH l), rootH (leavesH r))) (hne0 : ¬ bsOf l = bsOf (r.take l.length)) (hL : Laid w0) (h2 : 4 ≤ w0.heap.size) :
    Calls Tryd.prog 107 #[.slice a l.length c, .slice b r.length e, .slice p ps.length q] w0 (ListsP true w0) := by
  refine calls_st (F := []) (args := [.slice a l.length c, .slice b r.length e, .slice p ps.length q]) Tryd.func107 rfl (n := 156) rfl rfl ?_
  intro ac w HF HS
  refine wp_seq ?_
  refine wp_region_lit ?_
  refine sx_ef HF (ef_alloc HS ze85) rfl rfl ?_; clear HF HS ac; rintro _ w ac ⟨g6, rfl, HS⟩ HF
  refine sx_y HF HS (yl_assign rfl) rfl rfl ?_; clear HF ac; intro ac HF
  refine wpList_nil ?_
  refine then_n ?_
  refine wp_seq ?_
  refine wp_region_lit ?_
  refine sx_y HF HS (yl_move rfl) rfl rfl ?_; clear HF ac; intro ac HF
  refine sx_call HF Tryd.func99 (by kernel_rfl) (by kernel_rfl) (evs_cons rfl evs_nil) (leaves_any l a c w (hr.below HS.kp) (fun p hm => (hp p hm).1.below HS.kp) (by omega) (hL.below HS.kp) (Nat.le_trans h2 HS.kp.size)) rfl rfl ?_; clear HF ac
  rintro _ w ⟨_, rfl, ax0, cx0, rfl, o7, f7, k7⟩
  refine ⟨_, rfl, fun ac HF => ?_⟩
  replace HS := HS.addRow k7 o7 f7
  clear o7 f7 k7
  refine sx_y HF HS (yl_move rfl) rfl rfl ?_; clear HF ac; intro ac HF
  refine sx_call HF Tryd.func99 (by kernel_rfl) (by kernel_rfl) (evs_cons rfl evs_nil) (leaves_any r b e w (hs.below HS.kp) (fun p hm => (hq p hm).1.below HS.kp) (by omega) (hL.below HS.kp) (Nat.le_trans h2 HS.kp.size)) rfl rfl ?_; clear HF ac
  rintro _ w ⟨_, rfl, ay0, cy0, rfl, o7, f7, k7⟩
  refine ⟨_, rfl, fun ac HF => ?_⟩
  replace HS := HS.addRow k7 o7 f7
  clear o7 f7 k7
  refine sx_y HF HS (yl_assign rfl) rfl rfl ?_; clear HF ac; intro ac HF
  refine sx_y HF HS (yl_assign rfl) rfl rfl ?_; clear HF ac; intro ac HF
  refine wpList_nil ?_
  refine then_n ?_
  refine wp_seq ?_
  refine wp_region_lit ?_
  refine sx_y HF HS (yl_move rfl) rfl rfl ?_; clear HF ac; intro ac HF
  refine sx_call HF Tryd.func60 (by kernel_rfl) (by kernel_rfl) (evs_cons rfl evs_nil) (root_any (leavesH l) ax0 cx0 w HS.row1 (hL.below HS.kp) (Nat.le_trans h2 HS.kp.size)) rfl rfl ?_; clear HF ac
  rintro _ w ⟨rfl, k1⟩
  refine ⟨_, rfl, fun ac HF => ?_⟩
  replace HS := HS.call k1
  clear k1
  refine sx_ef HF (ef_alloc HS ze33) rfl rfl ?_; clear HF HS ac; rintro _ w ac ⟨g10, rfl, HS⟩ HF
  refine sx_ef0 HF (ef_store HS sz33 rfl rfl rfl) rfl ?_; clear HS; rintro _ w HS
  refine sx_y HF HS (yl_assign rfl) rfl rfl ?_; clear HF ac; intro ac HF
  refine wpList_nil ?_
  refine then_n ?_
  refine wp_seq ?_
  refine wp_block ?_
  replace HF := HF.sub (m' := [(6, _), (10, _), (0, _), (1, _), (2, _), (8, _), (9, _), (11, _)]) (by repeat (first | exact ag_nil | refine ag_cons rfl ?_))
  refine cx_loop (m := [(6, _), (10, _)]) (HF.sub (by repeat (first | exact ag_nil | refine ag_cons rfl ?_))) (fun m d ac w => ∃ (X Y : List Pt) (p : List Hsh) (own : Bool) (f : Nat) (a1 : Option Addr) (c1 : Nat) (b1 : Option Addr) (e1 : Nat) (ax : Option Addr) (cx : Nat) (ay : Option Addr) (cy : Nat) (p2 : Option Addr) (q2 : Nat), 1 ≤ X.length ∧ X.length ≤ Y.length ∧ Y.length ≤ f ∧ Y.length ≤ 100000 ∧ genF (ownF f X.length Y.length own) (stepF f X.length Y.length) (rootH (leavesH l)) p = some (rootH (leavesH X), rootH (leavesH Y)) ∧ ¬ bsOf X = bsOf (Y.take X.length) ∧ Rd w0 a1 X.length c1 1 (pts X) ∧ (∀ p ∈ X, p ∈ l) ∧ Rd w0 b1 Y.length e1 1 (pts Y) ∧ (∀ p ∈ Y, p ∈ r) ∧ (∀ w, Rd w ax0 (leavesH l).length cx0 32 (hsc (leavesH l)) → Rd w ax (leavesH X).length cx 32 (hsc (leavesH X))) ∧ (∀ w, Rd w ay0 (leavesH r).length cy0 32 (hsc (leavesH r)) → Rd w ay (leavesH Y).length cy 32 (hsc (leavesH Y))) ∧ Rd w0 p2 p.length q2 32 (hsc p) ∧ d = Y.length ∧ Fr ([(0, .slice a1 X.length c1), (1, .slice b1 Y.length e1), (2, .slice p2 p.length q2), (8, .slice ax (leavesH X).length cx), (9, .slice ay (leavesH Y).length cy), (11, .bool own)] ++ m) 156 ac ∧ St [] w0 [⟨g10, sgA [(32, hv (rootH (leavesH l)))], 33⟩, ⟨g6, sgA [(1, .slice none 0 0), (1, .slice none 0 0)], 85⟩] [⟨33, 32, ay0, (leavesH r).length, cy0, hsc (leavesH r)⟩, ⟨33, 32, ax0, (leavesH l).length, cx0, hsc (leavesH l)⟩] w) ?_ ?_
  · exact ⟨_, l, r, ps, true, r.length, a, c, b, e, ax0, cx0, ay0, cy0, p, q, h10, hle0, Nat.le_refl _, hlr, hg0, hne0, hr, fun p h => h, hs, fun p h => h, fun w h => h, fun w h => h, hps, rfl, HF.sub (by repeat (first | exact ag_nil | refine ag_cons rfl ?_)), HS⟩
  · clear HF HS ac w
    rintro d ac w ⟨X, Y, p, own, f, a1, c1, b1, e1, ax, cx, ay, cy, p2, q2, h1, hle, hf, hbnd, hg, hne, hX, hXl, hY, hYr, hx, hy, hp2, rfl, HF, HS⟩
    refine wp_seq ?_
    refine wp_seq ?_
    refine wp_region_lit ?_
    refine sx_y HF HS (yl_move rfl) rfl rfl ?_; clear HF ac; intro ac HF
    refine sx_y HF HS (yl_len_slice Tryd.underlying61 rfl) rfl rfl ?_; clear HF ac; intro ac HF
    refine sx_y HF HS (yl_move rfl) rfl rfl ?_; clear HF ac; intro ac HF
    refine sx_y HF HS (yl_len_slice Tryd.underlying61 rfl) rfl rfl ?_; clear HF ac; intro ac HF
    refine sx_dec HF HS (yl_lss rfl rfl rfl) rfl rfl ?_ ?_ <;> clear HF ac <;> intro h3x4 ac HF
    · obtain ⟨_, _, hs1, hs2, hs3⟩ := sp_spec Y.length (by omega) (by omega)
      obtain ⟨f, rfl⟩ : ∃ g, f = g + 1 := ⟨f - 1, by omega⟩
      obtain ⟨q, s, x, rfl, htl, htr⟩ := gen_top (by omega) hg
      have hlY := leavesH_length Y
      have hlX := leavesH_length X
      have hsplY := root_two Y _ rfl (by omega) (by omega)
      have hql : (q ++ [s]).length = q.length + 1 := by simp
      have hqs : (q ++ [s])[q.length]? = some s := by simp
      have hqr : Rd w0 p2 q.length q2 32 (hsc q) := by
        have h := hp2.takeH q.length (by omega)
        rwa [List.take_left] at h
      have hlmb := hp2.lim
      have hlmX := hX.lim
      have hlmY := hY.lim
      refine wpList_nil ?_
      refine then_n ?_
      refine cx_true HF rfl ?_
      refine wp_skip ?_
      refine then_n ?_
      refine wp_block ?_
      refine wp_seq ?_
      refine wp_region_lit ?_
      refine sx_y HF HS (yl_move rfl) rfl rfl ?_; clear HF ac; intro ac HF
      refine sx_y HF HS (yl_len_slice Tryd.underlying61 rfl) rfl rfl ?_; clear HF ac; intro ac HF
      refine sx_call HF Tryd.func101 (by kernel_rfl) (by kernel_rfl) (evs_cons rfl evs_nil) (split_any Y.length w (by omega) (by omega)) rfl rfl ?_; clear HF ac
      rintro _ w ⟨rfl, rfl⟩
      refine ⟨_, rfl, fun ac HF => ?_⟩
      refine sx_y HF HS (yl_assign rfl) rfl rfl ?_; clear HF ac; intro ac HF
      refine wpList_nil ?_
      refine then_n ?_
      refine wp_seq ?_
      refine dx_region 13 (by kernel_rfl) HS.drew (fun _ h => h) ?_; clear HS; intro w HS
      have HH := HS
      refine dx_p (i := 0) HF rfl (by kernel_rfl) (by kernel_rfl) (by kernel_rfl) (by decide) (fun _ _ _ h => h) (fun _ => HH) (yl_move rfl) rfl rfl ?_; clear HF ac; intro ac HF
      refine dx_p (i := 1) HF rfl (by kernel_rfl) (by kernel_rfl) (by kernel_rfl) (by decide) (fun _ _ _ h => h) (fun _ => HH) (yl_move rfl) rfl rfl ?_; clear HF ac; intro ac HF
      refine dx_p (i := 2) HF rfl (by kernel_rfl) (by kernel_rfl) (by kernel_rfl) (by decide) (fun _ _ _ h => h) (fun _ => HH) (yl_len_slice Tryd.underlying22 rfl) rfl rfl ?_; clear HF ac; intro ac HF
      refine dx_p (i := 3) HF rfl (by kernel_rfl) (by kernel_rfl) (by kernel_rfl) (by decide) (fun _ _ _ h => h) (fun _ => HH) (yl_sub64 (r := ((q.length : Nat) : Int)) rfl rfl (by omega) (by omega)) rfl rfl ?_; clear HF ac; intro ac HF
      refine dx_p (i := 4) HF rfl (by kernel_rfl) (by kernel_rfl) (by kernel_rfl) (by decide) (fun _ _ _ h => h) (fun _ => HH) (sl_hi (r := q.length) Tryd.underlying22 sz33 rfl rfl (by omega) rfl) rfl rfl ?_; clear HF ac; intro ac HF
      refine dx_p (i := 5) HF rfl (by kernel_rfl) (by kernel_rfl) (by kernel_rfl) (by decide) (fun _ _ _ h => h) (fun _ => HH) (yl_move rfl) rfl rfl ?_; clear HF ac; intro ac HF
      refine dx_p (i := 6) HF rfl (by kernel_rfl) (by kernel_rfl) (by kernel_rfl) (by decide) (fun _ _ _ h => h) (fun _ => HH) (yl_move rfl) rfl rfl ?_; clear HF ac; intro ac HF
      refine dx_p (i := 7) HF rfl (by kernel_rfl) (by kernel_rfl) (by kernel_rfl) (by decide) (fun _ _ _ h => h) (fun _ => HH) (yl_len_slice Tryd.underlying22 rfl) rfl rfl ?_; clear HF ac; intro ac HF
      refine dx_p (i := 8) HF rfl (by kernel_rfl) (by kernel_rfl) (by kernel_rfl) (by decide) (fun _ _ _ h => h) (fun _ => HH) (yl_sub64 (r := ((q.length : Nat) : Int)) rfl rfl (by omega) (by omega)) rfl rfl ?_; clear HF ac; intro ac HF
      refine dx_p (i := 9) HF rfl (by kernel_rfl) (by kernel_rfl) (by kernel_rfl) (by decide) (fun _ _ _ h => h) (fun _ => HH) (ix_sl Tryd.underlying22 sz33 rfl rfl (by omega) hp2.nil0) rfl rfl ?_; clear HF ac; intro ac HF
      refine dx_k (i := 10) HF rfl (by kernel_rfl) (by kernel_rfl) (by kernel_rfl) (by kernel_rfl) (by kernel_rfl) (fun _ _ _ h => h) HH (ld_elH ag33 rfl hqs (fun w h => hp2.below h.kp)) rfl rfl ?_; clear HF ac; intro ac HF
      refine dx_one (i := 11) (by kernel_rfl) ?_
      refine op_ef (i := 11) HF rfl rfl rfl (ef_alloc HS ze33) ?_; clear HF HS ac; rintro _ w ac ⟨g14, rfl, HS⟩ HF
      replace HH := HS.d1
      refine ⟨fun _ => HH, ?_⟩
      refine dx_p (i := 12) HF rfl (by kernel_rfl) (by kernel_rfl) (by kernel_rfl) (by decide) (fun _ _ _ h => h) (fun _ => HH) (yl_assign rfl) rfl rfl ?_; clear HF ac; intro ac HF
      refine dx_one (i := 13) (by kernel_rfl) ?_
      refine op_ef0 (i := 13) HF rfl rfl (ef_store HS sz33 rfl rfl rfl) ?_; clear HS; rintro _ w HS
      refine ⟨fun h => absurd h (by decide), ?_⟩
      refine dx_done (by kernel_rfl) ?_
      clear HH
      refine then_n ?_
      refine wp_seq ?_
      refine wp_seq ?_
      refine wp_region_lit ?_
      refine sx_y HF HS (yl_move rfl) rfl rfl ?_; clear HF ac; intro ac HF
      refine sx_y HF HS (yl_len_slice Tryd.underlying61 rfl) rfl rfl ?_; clear HF ac; intro ac HF
      refine sx_y HF HS (yl_move rfl) rfl rfl ?_; clear HF ac; intro ac HF
      refine sx_dec HF HS (yl_leq rfl rfl rfl) rfl rfl ?_ ?_ <;> clear HF ac <;> intro h6x3 ac HF
      · obtain ⟨hgx, hrr⟩ := htl (by omega)
        obtain ⟨hr1, hr2⟩ := Prod.mk.inj hrr
        have hYt : (Y.take (sp Y.length)).length = (sp Y.length) := by rw [List.length_take]; omega
        have hk : X.length ≤ (sp Y.length) := by omega
        refine wpList_nil ?_
        refine then_n ?_
        refine cx_true HF rfl ?_
        refine wp_seq ?_
        replace HF := HF.sub (m' := [(0, _), (1, _), (2, _), (6, _), (8, _), (9, _), (10, _), (11, _), (12, _), (13, _), (14, _)]) (by repeat (first | exact ag_nil | refine ag_cons rfl ?_))
        refine dx_join HF HS (fun m L R ac w => ∃ g15, Fr ([(15, .pointer (some ⟨g15, 0, none⟩))] ++ m) 156 ac ∧ St [] w0 (⟨g15, sgA (h2S x.2 s), 142⟩ :: L) R w) ?_ ?_
        · clear HF HS ac w
          rintro ac w ⟨g15, HF, HS⟩
          refine then_n ?_
          refine wp_seq ?_
          refine wp_seq ?_
          refine wp_region_lit ?_
          refine sx_y HF HS (yl_move rfl) rfl rfl ?_; clear HF ac; intro ac HF
          refine sx_call HF Tryd.func102 (by kernel_rfl) (by kernel_rfl) (evs_cons rfl evs_nil) (halvesP_any Y _ rfl ay cy w (hy w HS.row0) (by omega) (hL.below HS.kp) (Nat.le_trans h2 HS.kp.size)) rfl rfl ?_; clear HF ac
          rintro _ w ⟨rfl, k1⟩
          refine ⟨_, rfl, fun ac HF => ?_⟩
          replace HS := HS.call k1
          clear k1
          refine sx_ef HF (ef_alloc HS ze142) rfl rfl ?_; clear HF HS ac; rintro _ w ac ⟨g16, rfl, HS⟩ HF
          refine sx_ef0 HF (ef_stores HS sz142 rfl rfl rfl rfl) rfl ?_; clear HS; rintro _ w HS
          refine wpList_nil ?_
          refine then_n ?_
          refine wp_seq ?_
          refine wp_region_lit ?_
          refine sx_y HF HS (ld_all ag142 rfl rfl) rfl rfl ?_; clear HF ac; intro ac HF
          refine sx_y HF HS (ld_all ag142 rfl rfl) rfl rfl ?_; clear HF ac; intro ac HF
          refine sx_dec HF HS (yl_neH2 rfl rfl rfl) rfl rfl ?_ ?_ <;> clear HF ac <;> intro h9x2 ac HF
          · have hrb := right_nodes h9x2 (hsplY.symm.trans hr2)
            refine wpList_nil ?_
            refine then_n ?_
            refine cx_true HF rfl ?_
            refine wp_seq ?_
            refine wp_region_lit ?_
            refine sx_y HF HS (ld_all ag142 rfl rfl) rfl rfl ?_; clear HF ac; intro ac HF
            refine sx_y HF HS (ld_all ag142 rfl rfl) rfl rfl ?_; clear HF ac; intro ac HF
            refine sx_call HF Tryd.func104 (by kernel_rfl) (by kernel_rfl) (evs_cons rfl (evs_cons rfl evs_nil)) (nodes_any _ _ _ _ w (hL.below HS.kp) (Nat.le_trans h2 HS.kp.size)) rfl rfl ?_; clear HF ac
            rintro _ w ⟨a12, c12, a18, c18, rfl, k1⟩
            rw [hrb]
            refine ⟨_, rfl, fun ac HF => ?_⟩
            replace HS := HS.joinR2 k1
            clear k1
            refine sx_y HF HS (yl_extract rfl rfl) rfl rfl ?_; clear HF ac; intro ac HF
            refine sx_y HF HS (yl_extract rfl rfl) rfl rfl ?_; clear HF ac; intro ac HF
            refine sx_ef0 HF (ef_stores HS sz85 rfl rfl rfl rfl) rfl ?_; clear HS; rintro _ w HS
            refine sx_y HF HS (yl_assign rfl) rfl rfl ?_; clear HF ac; intro ac HF
            refine wpList_nil ?_
            refine then_n ?_
            refine wp_ret ?_
            refine then_r ?_
            refine then_r ?_
            refine blk_r ?_
            refine then_r ?_
            refine blk_r ?_
            refine then_r ?_
            exact rt2 rfl HF HS ⟨⟨_, rfl⟩, ld_all ag85 rfl rfl⟩ rfl ⟨_, _, _, _, _, _, rfl, HS.sub (List.nil_sublist _) (List.Sublist.cons_cons _ (List.Sublist.cons_cons _ (List.nil_sublist _))), fun _ => hrb⟩
          · obtain ⟨heq1, heq2⟩ := Decidable.not_not.1 h9x2
            refine wpList_nil ?_
            refine then_n ?_
            refine cx_false HF rfl ?_
            refine wp_skip ?_
            refine then_n ?_
            refine wp_seq ?_
            refine dx_region 10 (by kernel_rfl) HS.drew (fun _ h => h) ?_; clear HS; intro w HS
            have HH := HS
            have hly2 := (hy w HS.row0).lim
            refine dx_p (i := 0) HF rfl (by kernel_rfl) (by kernel_rfl) (by kernel_rfl) (by decide) (fun _ _ _ h => h) (fun _ => HH) (yl_move rfl) rfl rfl ?_; clear HF ac; intro ac HF
            refine dx_p (i := 1) HF rfl (by kernel_rfl) (by kernel_rfl) (by kernel_rfl) (by decide) (fun _ _ _ h => h) (fun _ => HH) (yl_move rfl) rfl rfl ?_; clear HF ac; intro ac HF
            refine dx_p (i := 2) HF rfl (by kernel_rfl) (by kernel_rfl) (by kernel_rfl) (by decide) (fun _ _ _ h => h) (fun _ => HH) (sl_hi (r := (Y.take (sp Y.length)).length) Tryd.underlying61 sz39 rfl rfl (by omega) (by rw [List.length_take]; omega)) rfl rfl ?_; clear HF ac; intro ac HF
            refine dx_p (i := 3) HF rfl (by kernel_rfl) (by kernel_rfl) (by kernel_rfl) (by decide) (fun _ _ _ h => h) (fun _ => HH) (yl_move rfl) rfl rfl ?_; clear HF ac; intro ac HF
            refine dx_p (i := 4) HF rfl (by kernel_rfl) (by kernel_rfl) (by kernel_rfl) (by decide) (fun _ _ _ h => h) (fun _ => HH) (yl_move rfl) rfl rfl ?_; clear HF ac; intro ac HF
            refine dx_p (i := 5) HF rfl (by kernel_rfl) (by kernel_rfl) (by kernel_rfl) (by decide) (fun _ _ _ h => h) (fun _ => HH) (sl_hi (r := (leavesH (Y.take (sp Y.length))).length) Tryd.underlying22 sz33 rfl rfl (by omega) (by have h1 := leavesH_length (Y.take (sp Y.length)); have h2 := leavesH_length Y; have h3 := List.length_take (i := (sp Y.length)) (l := Y); omega)) rfl rfl ?_; clear HF ac; intro ac HF
            refine dx_p (i := 6) HF rfl (by kernel_rfl) (by kernel_rfl) (by kernel_rfl) (by decide) (fun _ _ _ h => h) (fun _ => HH) (yl_move rfl) rfl rfl ?_; clear HF ac; intro ac HF
            refine dx_p (i := 7) HF rfl (by kernel_rfl) (by kernel_rfl) (by kernel_rfl) (by decide) (fun _ _ _ h => h) (fun _ => HH) (yl_assign rfl) rfl rfl ?_; clear HF ac; intro ac HF
            refine dx_p (i := 8) HF rfl (by kernel_rfl) (by kernel_rfl) (by kernel_rfl) (by decide) (fun _ _ _ h => h) (fun _ => HH) (yl_assign rfl) rfl rfl ?_; clear HF ac; intro ac HF
            refine dx_p (i := 9) HF rfl (by kernel_rfl) (by kernel_rfl) (by kernel_rfl) (by decide) (fun _ _ _ h => h) (fun _ => HH) (yl_assign rfl) rfl rfl ?_; clear HF ac; intro ac HF
            refine dx_done (by kernel_rfl) ?_
            clear HH
            refine then_n ?_
            refine wp_exit ?_
            refine then_x ?_
            refine blk_hit ?_
            refine then_n ?_
            refine ⟨_, ?_, X, Y.take (sp Y.length), q, own, f, a1, c1, b1, e1, ax, cx, ay, cy, p2, q2, h1, (by rw [hYt]; omega), (by rw [hYt]; omega), (by rw [hYt]; omega), ?_, part_ne2 hk hne, hX, hXl, hY.takeP (sp Y.length) (by omega), fun p h => hYr p (List.mem_of_mem_take h), hx, ?_, hqr, rfl, HF.sub (by repeat (first | exact ag_nil | refine ag_cons rfl ?_)), HS.d3⟩
            · rw [hYt]; omega
            · rw [hYt, heq1, hr1]; exact hgx
            · intro w h; rw [leavesH_take]; exact (hy w h).takeH (sp Y.length) (by omega)
        · intro J
          refine dx_region 10 (by kernel_rfl) HS.drew (fun _ h => h) ?_; clear HS; intro w HS
          have HH := HS
          refine dx_p (i := 0) HF rfl (by kernel_rfl) (by kernel_rfl) (by kernel_rfl) (by decide) (fun _ _ _ h => h) (fun _ => HH) (yl_move rfl) rfl rfl ?_; clear HF ac; intro ac HF
          refine dx_p (i := 1) HF rfl (by kernel_rfl) (by kernel_rfl) (by kernel_rfl) (by decide) (fun _ _ _ h => h) (fun _ => HH) (yl_len_slice Tryd.underlying61 rfl) rfl rfl ?_; clear HF ac; intro ac HF
          refine dx_p (i := 2) HF rfl (by kernel_rfl) (by kernel_rfl) (by kernel_rfl) (by decide) (fun _ _ _ h => h) (fun _ => HH) (yl_move rfl) rfl rfl ?_; clear HF ac; intro ac HF
          refine dx_k (i := 3) HF rfl (by kernel_rfl) (by kernel_rfl) (by kernel_rfl) (by kernel_rfl) (by kernel_rfl) (fun _ _ _ h => h) HH (ld_ag ag33 rfl rfl) rfl rfl ?_; clear HF ac; intro ac HF
          refine dx_p (i := 4) HF rfl (by kernel_rfl) (by kernel_rfl) (by kernel_rfl) (by decide) (fun _ _ _ h => h) (fun _ => HH) (yl_move rfl) rfl rfl ?_; clear HF ac; intro ac HF
          refine dx_p (i := 5) HF rfl (by kernel_rfl) (by kernel_rfl) (by kernel_rfl) (by decide) (fun _ _ _ h => h) (fun _ => HH) (yl_move rfl) rfl rfl ?_; clear HF ac; intro ac HF
          refine dx_k (i := 7) HF rfl (by kernel_rfl) (by kernel_rfl) (by kernel_rfl) (by kernel_rfl) (by kernel_rfl) (fun _ _ _ h => h) HH (ld_ag ag33 rfl rfl) rfl rfl ?_; clear HF ac; intro ac HF
          refine dx_two (i := 6) (j := 9) (by kernel_rfl) ?_ ?_
          · refine op_call (i := 6) HF rfl Tryd.func137 (by kernel_rfl) (by kernel_rfl) (evs_cons rfl (evs_cons rfl (evs_cons rfl (evs_cons rfl (evs_cons rfl evs_nil))))) (second_any X.length (sp Y.length) (rootH (leavesH l)) q p2 q2 w (hqr.below HS.kp) f own x (by omega) h1 hk (by omega) hgx (hL.below HS.kp) (Nat.le_trans h2 HS.kp.size)) rfl rfl ?_; clear HF ac
            rintro _ w ⟨rfl, k1⟩
            refine ⟨_, rfl, fun ac HF => ?_⟩
            replace HH := HH.call k1
            replace HS := HS.call k1
            clear k1
            refine ⟨fun _ => HH, ?_⟩
            refine dx_p (i := 8) HF rfl (by kernel_rfl) (by kernel_rfl) (by kernel_rfl) (by decide) (fun _ _ _ h => h) (fun _ => HH) (bd_ar (parts := #[(0, .tmp 56), (1, .tmp 57)]) Tryd.underlying142 sz33 ze142 (evs_cons rfl (evs_cons rfl evs_nil)) (pl := [(0, 32), (32, 32)]) (by decide) (inferInstance : SgW [(32, _), (32, _)]) rfl) rfl rfl ?_; clear HF ac; intro ac HF
            refine dx_one (i := 9) (by kernel_rfl) ?_
            refine op_ef (i := 9) HF rfl rfl rfl (ef_alloc HS ze142) ?_; clear HF HS ac; rintro _ w ac ⟨g15, rfl, HS⟩ HF
            replace HH := HS.d1
            refine ⟨fun _ => HH, ?_⟩
            refine dx_one (i := 10) (by kernel_rfl) ?_
            refine op_ef0 (i := 10) HF rfl rfl (ef_stores HS sz142 rfl rfl rfl rfl) ?_; clear HS; rintro _ w HS
            refine ⟨fun h => absurd h (by decide), ?_⟩
            refine dx_done (by kernel_rfl) ?_
            exact J _ _ ⟨_, HF.sub (by repeat (first | exact ag_nil | refine ag_cons rfl ?_)), HS⟩
          · refine op_ef (i := 9) HF rfl rfl rfl (ef_alloc HS ze142) ?_; clear HF HS ac; rintro _ w ac ⟨g15, rfl, HS⟩ HF
            replace HH := HS.d1
            refine ⟨fun _ => HH, ?_⟩
            refine dx_one (i := 6) (by kernel_rfl) ?_
            refine op_call (i := 6) HF rfl Tryd.func137 (by kernel_rfl) (by kernel_rfl) (evs_cons rfl (evs_cons rfl (evs_cons rfl (evs_cons rfl (evs_cons rfl evs_nil))))) (second_any X.length (sp Y.length) (rootH (leavesH l)) q p2 q2 w (hqr.below HS.kp) f own x (by omega) h1 hk (by omega) hgx (hL.below HS.kp) (Nat.le_trans h2 HS.kp.size)) rfl rfl ?_; clear HF ac
            rintro _ w ⟨rfl, k1⟩
            refine ⟨_, rfl, fun ac HF => ?_⟩
            replace HH := HH.call k1
            replace HS := HS.call k1
            clear k1
            refine ⟨fun _ => HH, ?_⟩
            refine dx_p (i := 8) HF rfl (by kernel_rfl) (by kernel_rfl) (by kernel_rfl) (by decide) (fun _ _ _ h => h) (fun _ => HH) (bd_ar (parts := #[(0, .tmp 56), (1, .tmp 57)]) Tryd.underlying142 sz33 ze142 (evs_cons rfl (evs_cons rfl evs_nil)) (pl := [(0, 32), (32, 32)]) (by decide) (inferInstance : SgW [(32, _), (32, _)]) rfl) rfl rfl ?_; clear HF ac; intro ac HF
            refine dx_one (i := 10) (by kernel_rfl) ?_
            refine op_ef0 (i := 10) HF rfl rfl (ef_stores HS sz142 rfl rfl rfl rfl) ?_; clear HS; rintro _ w HS
            refine ⟨fun h => absurd h (by decide), ?_⟩
            refine dx_done (by kernel_rfl) ?_
            exact J _ _ ⟨_, HF.sub (by repeat (first | exact ag_nil | refine ag_cons rfl ?_)), HS⟩
      · obtain ⟨hgx, hrr⟩ := htr (by omega)
        obtain ⟨hr1, hr2⟩ := Prod.mk.inj hrr
        have hspX : sp X.length = (sp Y.length) := sp_same (by omega) (by omega) (by omega) (by omega) (by omega)
        have hsplX := root_two X (sp Y.length) hspX (by omega) (by omega)
        have hXd : (X.drop (sp Y.length)).length = X.length - (sp Y.length) := List.length_drop
        have hYd : (Y.drop (sp Y.length)).length = Y.length - (sp Y.length) := List.length_drop
        refine wpList_nil ?_
        refine then_n ?_
        refine cx_false HF rfl ?_
        refine wp_skip ?_
        refine then_n ?_
        refine wp_seq ?_
        replace HF := HF.sub (m' := [(0, _), (1, _), (2, _), (6, _), (8, _), (9, _), (10, _), (11, _), (12, _), (13, _), (14, _)]) (by repeat (first | exact ag_nil | refine ag_cons rfl ?_))
        refine dx_join HF HS (fun m L R ac w => ∃ g17, Fr ([(17, .pointer (some ⟨g17, 0, none⟩))] ++ m) 156 ac ∧ St [] w0 (⟨g17, sgA (h2S s x.1), 142⟩ :: L) R w) ?_ ?_
        · clear HF HS ac w
          rintro ac w ⟨g17, HF, HS⟩
          refine then_n ?_
          refine wp_seq ?_
          refine wp_seq ?_
          refine wp_region_lit ?_
          refine sx_y HF HS (yl_move rfl) rfl rfl ?_; clear HF ac; intro ac HF
          refine sx_call HF Tryd.func102 (by kernel_rfl) (by kernel_rfl) (evs_cons rfl evs_nil) (halvesP_any X (sp Y.length) hspX ax cx w (hx w HS.row1) (by omega) (hL.below HS.kp) (Nat.le_trans h2 HS.kp.size)) rfl rfl ?_; clear HF ac
          rintro _ w ⟨rfl, k1⟩
          refine ⟨_, rfl, fun ac HF => ?_⟩
          replace HS := HS.call k1
          clear k1
          refine sx_ef HF (ef_alloc HS ze142) rfl rfl ?_; clear HF HS ac; rintro _ w ac ⟨g18, rfl, HS⟩ HF
          refine sx_ef0 HF (ef_stores HS sz142 rfl rfl rfl rfl) rfl ?_; clear HS; rintro _ w HS
          refine wpList_nil ?_
          refine then_n ?_
          refine wp_seq ?_
          refine wp_region_lit ?_
          refine sx_y HF HS (ld_all ag142 rfl rfl) rfl rfl ?_; clear HF ac; intro ac HF
          refine sx_y HF HS (ld_all ag142 rfl rfl) rfl rfl ?_; clear HF ac; intro ac HF
          refine sx_dec HF HS (yl_neH2 rfl rfl rfl) rfl rfl ?_ ?_ <;> clear HF ac <;> intro h14x2 ac HF
          · have hrb := right_nodes h14x2 (hsplX.symm.trans hr1)
            refine wpList_nil ?_
            refine then_n ?_
            refine cx_true HF rfl ?_
            refine wp_seq ?_
            refine wp_region_lit ?_
            refine sx_y HF HS (ld_all ag142 rfl rfl) rfl rfl ?_; clear HF ac; intro ac HF
            refine sx_y HF HS (ld_all ag142 rfl rfl) rfl rfl ?_; clear HF ac; intro ac HF
            refine sx_call HF Tryd.func104 (by kernel_rfl) (by kernel_rfl) (evs_cons rfl (evs_cons rfl evs_nil)) (nodes_any _ _ _ _ w (hL.below HS.kp) (Nat.le_trans h2 HS.kp.size)) rfl rfl ?_; clear HF ac
            rintro _ w ⟨a12, c12, a18, c18, rfl, k1⟩
            rw [hrb]
            refine ⟨_, rfl, fun ac HF => ?_⟩
            replace HS := HS.joinR2 k1
            clear k1
            refine sx_y HF HS (yl_extract rfl rfl) rfl rfl ?_; clear HF ac; intro ac HF
            refine sx_y HF HS (yl_extract rfl rfl) rfl rfl ?_; clear HF ac; intro ac HF
            refine sx_ef0 HF (ef_stores HS sz85 rfl rfl rfl rfl) rfl ?_; clear HS; rintro _ w HS
            refine sx_y HF HS (yl_assign rfl) rfl rfl ?_; clear HF ac; intro ac HF
            refine wpList_nil ?_
            refine then_n ?_
            refine wp_ret ?_
            refine then_r ?_
            refine blk_r ?_
            refine then_r ?_
            refine blk_r ?_
            refine then_r ?_
            exact rt2 rfl HF HS ⟨⟨_, rfl⟩, ld_all ag85 rfl rfl⟩ rfl ⟨_, _, _, _, _, _, rfl, HS.sub (List.nil_sublist _) (List.Sublist.cons_cons _ (List.Sublist.cons_cons _ (List.nil_sublist _))), fun _ => hrb⟩
          · obtain ⟨hx1, hx2⟩ := Decidable.not_not.1 h14x2
            refine wpList_nil ?_
            refine then_n ?_
            refine cx_false HF rfl ?_
            refine wp_skip ?_
            refine then_n ?_
            refine wp_seq ?_
            replace HF := HF.sub (m' := [(0, _), (1, _), (2, _), (6, _), (8, _), (9, _), (10, _), (11, _), (12, _), (13, _), (14, _)]) (by repeat (first | exact ag_nil | refine ag_cons rfl ?_))
            refine dx_join HF HS (fun m L R ac w => ∃ g19, Fr ([(19, .pointer (some ⟨g19, 0, none⟩))] ++ m) 156 ac ∧ St [] w0 (⟨g19, sgA (h2S s x.2), 142⟩ :: L) R w) ?_ ?_
            · clear HF HS ac w
              rintro ac w ⟨g19, HF, HS⟩
              refine then_n ?_
              refine wp_seq ?_
              refine wp_seq ?_
              refine wp_region_lit ?_
              refine sx_y HF HS (yl_move rfl) rfl rfl ?_; clear HF ac; intro ac HF
              refine sx_call HF Tryd.func102 (by kernel_rfl) (by kernel_rfl) (evs_cons rfl evs_nil) (halvesP_any Y _ rfl ay cy w (hy w HS.row0) (by omega) (hL.below HS.kp) (Nat.le_trans h2 HS.kp.size)) rfl rfl ?_; clear HF ac
              rintro _ w ⟨rfl, k1⟩
              refine ⟨_, rfl, fun ac HF => ?_⟩
              replace HS := HS.call k1
              clear k1
              refine sx_ef HF (ef_alloc HS ze142) rfl rfl ?_; clear HF HS ac; rintro _ w ac ⟨g20, rfl, HS⟩ HF
              refine sx_ef0 HF (ef_stores HS sz142 rfl rfl rfl rfl) rfl ?_; clear HS; rintro _ w HS
              refine wpList_nil ?_
              refine then_n ?_
              refine wp_seq ?_
              refine wp_region_lit ?_
              refine sx_y HF HS (ld_all ag142 rfl rfl) rfl rfl ?_; clear HF ac; intro ac HF
              refine sx_y HF HS (ld_all ag142 rfl rfl) rfl rfl ?_; clear HF ac; intro ac HF
              refine sx_dec HF HS (yl_neH2 rfl rfl rfl) rfl rfl ?_ ?_ <;> clear HF ac <;> intro h18x2 ac HF
              · have hrb := right_nodes h18x2 (hsplY.symm.trans hr2)
                refine wpList_nil ?_
                refine then_n ?_
                refine cx_true HF rfl ?_
                refine wp_seq ?_
                refine wp_region_lit ?_
                refine sx_y HF HS (ld_all ag142 rfl rfl) rfl rfl ?_; clear HF ac; intro ac HF
                refine sx_y HF HS (ld_all ag142 rfl rfl) rfl rfl ?_; clear HF ac; intro ac HF
                refine sx_call HF Tryd.func104 (by kernel_rfl) (by kernel_rfl) (evs_cons rfl (evs_cons rfl evs_nil)) (nodes_any _ _ _ _ w (hL.below HS.kp) (Nat.le_trans h2 HS.kp.size)) rfl rfl ?_; clear HF ac
                rintro _ w ⟨a12, c12, a18, c18, rfl, k1⟩
                rw [hrb]
                refine ⟨_, rfl, fun ac HF => ?_⟩
                replace HS := HS.joinR2 k1
                clear k1
                refine sx_y HF HS (yl_extract rfl rfl) rfl rfl ?_; clear HF ac; intro ac HF
                refine sx_y HF HS (yl_extract rfl rfl) rfl rfl ?_; clear HF ac; intro ac HF
                refine sx_ef0 HF (ef_stores HS sz85 rfl rfl rfl rfl) rfl ?_; clear HS; rintro _ w HS
                refine sx_y HF HS (yl_assign rfl) rfl rfl ?_; clear HF ac; intro ac HF
                refine wpList_nil ?_
                refine then_n ?_
                refine wp_ret ?_
                refine then_r ?_
                refine blk_r ?_
                refine then_r ?_
                refine blk_r ?_
                refine then_r ?_
                exact rt2 rfl HF HS ⟨⟨_, rfl⟩, ld_all ag85 rfl rfl⟩ rfl ⟨_, _, _, _, _, _, rfl, HS.sub (List.nil_sublist _) (List.Sublist.cons_cons _ (List.Sublist.cons_cons _ (List.nil_sublist _))), fun _ => hrb⟩
              · obtain ⟨hy1, hy2⟩ := Decidable.not_not.1 h18x2
                refine wpList_nil ?_
                refine then_n ?_
                refine cx_false HF rfl ?_
                refine wp_skip ?_
                refine then_n ?_
                refine wp_seq ?_
                refine wp_seq ?_
                refine dx_region 8 (by kernel_rfl) HS.drew (fun _ h => h) ?_; clear HS; intro w HS
                have HH := HS
                refine dx_p (i := 0) HF rfl (by kernel_rfl) (by kernel_rfl) (by kernel_rfl) (by decide) (fun _ _ _ h => h) (fun _ => HH) (yl_move rfl) rfl rfl ?_; clear HF ac; intro ac HF
                refine dx_p (i := 1) HF rfl (by kernel_rfl) (by kernel_rfl) (by kernel_rfl) (by decide) (fun _ _ _ h => h) (fun _ => HH) (yl_move rfl) rfl rfl ?_; clear HF ac; intro ac HF
                refine dx_p (i := 2) HF rfl (by kernel_rfl) (by kernel_rfl) (by kernel_rfl) (by decide) (fun _ _ _ h => h) (fun _ => HH) (sl_hi (r := (X.take (sp Y.length)).length) Tryd.underlying61 sz39 rfl rfl (by omega) (by rw [List.length_take]; omega)) rfl rfl ?_; clear HF ac; intro ac HF
                refine dx_p (i := 3) HF rfl (by kernel_rfl) (by kernel_rfl) (by kernel_rfl) (by decide) (fun _ _ _ h => h) (fun _ => HH) (yl_move rfl) rfl rfl ?_; clear HF ac; intro ac HF
                refine dx_p (i := 4) HF rfl (by kernel_rfl) (by kernel_rfl) (by kernel_rfl) (by decide) (fun _ _ _ h => h) (fun _ => HH) (yl_move rfl) rfl rfl ?_; clear HF ac; intro ac HF
                refine dx_p (i := 5) HF rfl (by kernel_rfl) (by kernel_rfl) (by kernel_rfl) (by decide) (fun _ _ _ h => h) (fun _ => HH) (sl_hi (r := (Y.take (sp Y.length)).length) Tryd.underlying61 sz39 rfl rfl (by omega) (by rw [List.length_take]; omega)) rfl rfl ?_; clear HF ac; intro ac HF
                refine dx_one (i := 6) (by kernel_rfl) ?_
                refine op_call (i := 6) HF rfl Tryd.func106 (by kernel_rfl) (by kernel_rfl) (evs_cons rfl (evs_cons rfl evs_nil)) (equal_any (X.take (sp Y.length)) a1 c1 (Y.take (sp Y.length)) b1 e1 w ((hX.takeP _ (by omega)).below HS.kp) (fun p hm => (hp p (hXl p (List.mem_of_mem_take hm))).1.below HS.kp) ((hY.takeP _ (by omega)).below HS.kp) (fun p hm => (hq p (hYr p (List.mem_of_mem_take hm))).1.below HS.kp)) rfl rfl ?_; clear HF ac
                rintro _ w ⟨rfl, k1⟩
                refine ⟨_, rfl, fun ac HF => ?_⟩
                replace HH := HH.call k1
                replace HS := HS.call k1
                clear k1
                refine ⟨fun _ => HH, ?_⟩
                refine dx_p (i := 7) HF rfl (by kernel_rfl) (by kernel_rfl) (by kernel_rfl) (by decide) (fun _ _ _ h => h) (fun _ => HH) (yl_not rfl) rfl rfl ?_; clear HF ac; intro ac HF
                refine dx_done (by kernel_rfl) ?_
                clear HH
                refine then_n ?_
                refine cx_split HF rfl ?_ ?_ <;> intro hc20
                · have hneq : ¬ bsOf (X.take (sp Y.length)) = bsOf (Y.take (sp Y.length)) := by simpa using hc20
                  have hfd : foundB (X.take (sp Y.length)) (Y.take (sp Y.length)) = true := decide_eq_true ⟨by rw [List.length_take, List.length_take]; omega, by rw [hx1, hy1], hneq⟩
                  have HLI := fun w (k : Kp [] w0 w) => lists_any (X.take (sp Y.length)) (Y.take (sp Y.length)) a1 b1 c1 e1 w ((hX.takeP (sp Y.length) (by omega)).below k) (fun p hm => ⟨(hp p (hXl p (List.mem_of_mem_take hm))).1.below k, (hp p (hXl p (List.mem_of_mem_take hm))).2⟩) (by rw [List.length_take]; omega) ((hY.takeP (sp Y.length) (by omega)).below k) (fun p hm => ⟨(hq p (hYr p (List.mem_of_mem_take hm))).1.below k, (hq p (hYr p (List.mem_of_mem_take hm))).2⟩) (by rw [List.length_take]; omega) (hL.below k) (Nat.le_trans h2 k.size)
                  simp only [hfd] at HLI
                  refine wp_seq ?_
                  refine dx_region 9 (by kernel_rfl) HS.drew (fun _ h => h) ?_; clear HS; intro w HS
                  have HH := HS
                  refine dx_p (i := 0) HF rfl (by kernel_rfl) (by kernel_rfl) (by kernel_rfl) (by decide) (fun _ _ _ h => h) (fun _ => HH) (yl_move rfl) rfl rfl ?_; clear HF ac; intro ac HF
                  refine dx_p (i := 1) HF rfl (by kernel_rfl) (by kernel_rfl) (by kernel_rfl) (by decide) (fun _ _ _ h => h) (fun _ => HH) (yl_move rfl) rfl rfl ?_; clear HF ac; intro ac HF
                  refine dx_p (i := 2) HF rfl (by kernel_rfl) (by kernel_rfl) (by kernel_rfl) (by decide) (fun _ _ _ h => h) (fun _ => HH) (sl_hi (r := (X.take (sp Y.length)).length) Tryd.underlying61 sz39 rfl rfl (by omega) (by rw [List.length_take]; omega)) rfl rfl ?_; clear HF ac; intro ac HF
                  refine dx_p (i := 3) HF rfl (by kernel_rfl) (by kernel_rfl) (by kernel_rfl) (by decide) (fun _ _ _ h => h) (fun _ => HH) (yl_move rfl) rfl rfl ?_; clear HF ac; intro ac HF
                  refine dx_p (i := 4) HF rfl (by kernel_rfl) (by kernel_rfl) (by kernel_rfl) (by decide) (fun _ _ _ h => h) (fun _ => HH) (yl_move rfl) rfl rfl ?_; clear HF ac; intro ac HF
                  refine dx_p (i := 5) HF rfl (by kernel_rfl) (by kernel_rfl) (by kernel_rfl) (by decide) (fun _ _ _ h => h) (fun _ => HH) (sl_hi (r := (Y.take (sp Y.length)).length) Tryd.underlying61 sz39 rfl rfl (by omega) (by rw [List.length_take]; omega)) rfl rfl ?_; clear HF ac; intro ac HF
                  refine dx_one (i := 6) (by kernel_rfl) ?_
                  refine op_call (i := 6) HF rfl Tryd.func139 (by kernel_rfl) (by kernel_rfl) (evs_cons rfl (evs_cons rfl evs_nil)) (HLI w HS.kp) rfl rfl ?_; clear HF ac
                  rintro _ w ⟨xs, zs, a2, c2, b2, e2, rfl, k1, hrb0⟩
                  have hrb := hrb0 rfl
                  refine ⟨_, rfl, fun ac HF => ?_⟩
                  replace HH := HH.call k1.kp
                  replace HS := HS.joinR2 k1
                  clear k1
                  refine ⟨fun _ => HH, ?_⟩
                  refine dx_p (i := 7) HF rfl (by kernel_rfl) (by kernel_rfl) (by kernel_rfl) (by decide) (fun _ _ _ h => h) (fun _ => HH) (yl_extract rfl rfl) rfl rfl ?_; clear HF ac; intro ac HF
                  refine dx_p (i := 8) HF rfl (by kernel_rfl) (by kernel_rfl) (by kernel_rfl) (by decide) (fun _ _ _ h => h) (fun _ => HH) (yl_extract rfl rfl) rfl rfl ?_; clear HF ac; intro ac HF
                  refine dx_one (i := 9) (by kernel_rfl) ?_
                  refine op_ef0 (i := 9) HF rfl rfl (ef_stores HS sz85 rfl rfl rfl rfl) ?_; clear HS; rintro _ w HS
                  refine ⟨fun h => absurd h (by decide), ?_⟩
                  refine dx_p (i := 10) HF rfl (by kernel_rfl) (by kernel_rfl) (by kernel_rfl) (by decide) (fun _ _ _ h => h) (fun h => absurd h (by decide)) (yl_assign rfl) rfl rfl ?_; clear HF ac; intro ac HF
                  refine dx_done (by kernel_rfl) ?_
                  clear HH
                  refine then_n ?_
                  refine wp_ret ?_
                  refine then_r ?_
                  refine blk_r ?_
                  refine then_r ?_
                  refine blk_r ?_
                  refine then_r ?_
                  exact rt2 rfl HF HS ⟨⟨_, rfl⟩, ld_all ag85 rfl rfl⟩ rfl ⟨_, _, _, _, _, _, rfl, HS.sub (List.nil_sublist _) (List.Sublist.cons_cons _ (List.Sublist.cons_cons _ (List.nil_sublist _))), fun _ => hrb⟩
                · have heq : bsOf (X.take (sp Y.length)) = bsOf (Y.take (sp Y.length)) := by simpa using hc20
                  refine wp_skip ?_
                  refine then_n ?_
                  refine dx_region 19 (by kernel_rfl) HS.drew (fun _ h => h) ?_; clear HS; intro w HS
                  have HH := HS
                  have hlx2 := (hx w HS.row1).lim
                  have hly2 := (hy w HS.row0).lim
                  refine dx_p (i := 0) HF rfl (by kernel_rfl) (by kernel_rfl) (by kernel_rfl) (by decide) (fun _ _ _ h => h) (fun _ => HH) (yl_move rfl) rfl rfl ?_; clear HF ac; intro ac HF
                  refine dx_p (i := 1) HF rfl (by kernel_rfl) (by kernel_rfl) (by kernel_rfl) (by decide) (fun _ _ _ h => h) (fun _ => HH) (yl_move rfl) rfl rfl ?_; clear HF ac; intro ac HF
                  refine dx_p (i := 2) HF rfl (by kernel_rfl) (by kernel_rfl) (by kernel_rfl) (by decide) (fun _ _ _ h => h) (fun _ => HH) (sl_lo (r := (X.drop (sp Y.length)).length) Tryd.underlying61 sz39 rfl rfl (by omega) (by rw [List.length_drop])) rfl rfl ?_; clear HF ac; intro ac HF
                  refine dx_p (i := 3) HF rfl (by kernel_rfl) (by kernel_rfl) (by kernel_rfl) (by decide) (fun _ _ _ h => h) (fun _ => HH) (yl_move rfl) rfl rfl ?_; clear HF ac; intro ac HF
                  refine dx_p (i := 4) HF rfl (by kernel_rfl) (by kernel_rfl) (by kernel_rfl) (by decide) (fun _ _ _ h => h) (fun _ => HH) (yl_move rfl) rfl rfl ?_; clear HF ac; intro ac HF
                  refine dx_p (i := 5) HF rfl (by kernel_rfl) (by kernel_rfl) (by kernel_rfl) (by decide) (fun _ _ _ h => h) (fun _ => HH) (sl_lo (r := (Y.drop (sp Y.length)).length) Tryd.underlying61 sz39 rfl rfl (by omega) (by rw [List.length_drop])) rfl rfl ?_; clear HF ac; intro ac HF
                  refine dx_p (i := 6) HF rfl (by kernel_rfl) (by kernel_rfl) (by kernel_rfl) (by decide) (fun _ _ _ h => h) (fun _ => HH) (yl_move rfl) rfl rfl ?_; clear HF ac; intro ac HF
                  refine dx_p (i := 7) HF rfl (by kernel_rfl) (by kernel_rfl) (by kernel_rfl) (by decide) (fun _ _ _ h => h) (fun _ => HH) (yl_move rfl) rfl rfl ?_; clear HF ac; intro ac HF
                  refine dx_p (i := 8) HF rfl (by kernel_rfl) (by kernel_rfl) (by kernel_rfl) (by decide) (fun _ _ _ h => h) (fun _ => HH) (sl_lo (r := (leavesH (X.drop (sp Y.length))).length) Tryd.underlying22 sz33 rfl rfl (by omega) (by have h1 := leavesH_length (X.drop (sp Y.length)); have h2 := leavesH_length X; have h3 := List.length_drop (i := (sp Y.length)) (l := X); omega)) rfl rfl ?_; clear HF ac; intro ac HF
                  refine dx_p (i := 9) HF rfl (by kernel_rfl) (by kernel_rfl) (by kernel_rfl) (by decide) (fun _ _ _ h => h) (fun _ => HH) (yl_move rfl) rfl rfl ?_; clear HF ac; intro ac HF
                  refine dx_p (i := 10) HF rfl (by kernel_rfl) (by kernel_rfl) (by kernel_rfl) (by decide) (fun _ _ _ h => h) (fun _ => HH) (yl_move rfl) rfl rfl ?_; clear HF ac; intro ac HF
                  refine dx_p (i := 11) HF rfl (by kernel_rfl) (by kernel_rfl) (by kernel_rfl) (by decide) (fun _ _ _ h => h) (fun _ => HH) (sl_lo (r := (leavesH (Y.drop (sp Y.length))).length) Tryd.underlying22 sz33 rfl rfl (by omega) (by have h1 := leavesH_length (Y.drop (sp Y.length)); have h2 := leavesH_length Y; have h3 := List.length_drop (i := (sp Y.length)) (l := Y); omega)) rfl rfl ?_; clear HF ac; intro ac HF
                  refine dx_p (i := 12) HF rfl (by kernel_rfl) (by kernel_rfl) (by kernel_rfl) (by decide) (fun _ _ _ h => h) (fun _ => HH) (yl_move rfl) rfl rfl ?_; clear HF ac; intro ac HF
                  refine dx_p (i := 13) HF rfl (by kernel_rfl) (by kernel_rfl) (by kernel_rfl) (by decide) (fun _ _ _ h => h) (fun _ => HH) (yl_assign rfl) rfl rfl ?_; clear HF ac; intro ac HF
                  refine dx_p (i := 14) HF rfl (by kernel_rfl) (by kernel_rfl) (by kernel_rfl) (by decide) (fun _ _ _ h => h) (fun _ => HH) (yl_assign rfl) rfl rfl ?_; clear HF ac; intro ac HF
                  refine dx_p (i := 15) HF rfl (by kernel_rfl) (by kernel_rfl) (by kernel_rfl) (by decide) (fun _ _ _ h => h) (fun _ => HH) (yl_assign rfl) rfl rfl ?_; clear HF ac; intro ac HF
                  refine dx_p (i := 16) HF rfl (by kernel_rfl) (by kernel_rfl) (by kernel_rfl) (by decide) (fun _ _ _ h => h) (fun _ => HH) (yl_assign rfl) rfl rfl ?_; clear HF ac; intro ac HF
                  refine dx_p (i := 17) HF rfl (by kernel_rfl) (by kernel_rfl) (by kernel_rfl) (by decide) (fun _ _ _ h => h) (fun _ => HH) (yl_assign rfl) rfl rfl ?_; clear HF ac; intro ac HF
                  refine dx_p (i := 18) HF rfl (by kernel_rfl) (by kernel_rfl) (by kernel_rfl) (by decide) (fun _ _ _ h => h) (fun _ => HH) (yl_assign rfl) rfl rfl ?_; clear HF ac; intro ac HF
                  refine dx_done (by kernel_rfl) ?_
                  clear HH
                  refine blk_n ?_
                  refine then_n ?_
                  refine ⟨_, ?_, X.drop (sp Y.length), Y.drop (sp Y.length), q, false, f, cutA a1 (sp Y.length) c1 1, c1 - (sp Y.length), cutA b1 (sp Y.length) e1 1, e1 - (sp Y.length), cutA ax (sp Y.length) cx 32, cx - (sp Y.length), cutA ay (sp Y.length) cy 32, cy - (sp Y.length), p2, q2, (by rw [hXd]; omega), (by rw [hXd, hYd]; omega), (by rw [hYd]; omega), (by rw [hYd]; omega), ?_, part_ne (by omega) hne heq, hX.dropP (sp Y.length) (by omega), fun p h => hXl p (List.mem_of_mem_drop h), hY.dropP (sp Y.length) (by omega), fun p h => hYr p (List.mem_of_mem_drop h), ?_, ?_, hqr, rfl, HF.sub (by repeat (first | exact ag_nil | refine ag_cons rfl ?_)), HS.d2.d3⟩
                  · rw [hYd]; omega
                  · rw [hXd, hYd, hx2, hy2]; exact hgx
                  · intro w h; rw [leavesH_drop]; exact (hx w h).dropH (sp Y.length) (by omega)
                  · intro w h; rw [leavesH_drop]; exact (hy w h).dropH (sp Y.length) (by omega)
            · intro J
              refine dx_region 14 (by kernel_rfl) HS.drew (fun _ h => h) ?_; clear HS; intro w HS
              have HH := HS
              refine dx_k (i := 0) HF rfl (by kernel_rfl) (by kernel_rfl) (by kernel_rfl) (by kernel_rfl) (by kernel_rfl) (fun _ _ _ h => h) HH (ld_ag ag33 rfl rfl) rfl rfl ?_; clear HF ac; intro ac HF
              refine dx_p (i := 1) HF rfl (by kernel_rfl) (by kernel_rfl) (by kernel_rfl) (by decide) (fun _ _ _ h => h) (fun _ => HH) (yl_move rfl) rfl rfl ?_; clear HF ac; intro ac HF
              refine dx_p (i := 2) HF rfl (by kernel_rfl) (by kernel_rfl) (by kernel_rfl) (by decide) (fun _ _ _ h => h) (fun _ => HH) (yl_len_slice Tryd.underlying61 rfl) rfl rfl ?_; clear HF ac; intro ac HF
              refine dx_p (i := 3) HF rfl (by kernel_rfl) (by kernel_rfl) (by kernel_rfl) (by decide) (fun _ _ _ h => h) (fun _ => HH) (yl_move rfl) rfl rfl ?_; clear HF ac; intro ac HF
              refine dx_p (i := 4) HF rfl (by kernel_rfl) (by kernel_rfl) (by kernel_rfl) (by decide) (fun _ _ _ h => h) (fun _ => HH) (yl_sub64 (r := ((X.length - (sp Y.length) : Nat) : Int)) rfl rfl (by omega) (by omega)) rfl rfl ?_; clear HF ac; intro ac HF
              refine dx_p (i := 5) HF rfl (by kernel_rfl) (by kernel_rfl) (by kernel_rfl) (by decide) (fun _ _ _ h => h) (fun _ => HH) (yl_move rfl) rfl rfl ?_; clear HF ac; intro ac HF
              refine dx_p (i := 6) HF rfl (by kernel_rfl) (by kernel_rfl) (by kernel_rfl) (by decide) (fun _ _ _ h => h) (fun _ => HH) (yl_len_slice Tryd.underlying61 rfl) rfl rfl ?_; clear HF ac; intro ac HF
              refine dx_p (i := 7) HF rfl (by kernel_rfl) (by kernel_rfl) (by kernel_rfl) (by decide) (fun _ _ _ h => h) (fun _ => HH) (yl_move rfl) rfl rfl ?_; clear HF ac; intro ac HF
              refine dx_p (i := 8) HF rfl (by kernel_rfl) (by kernel_rfl) (by kernel_rfl) (by decide) (fun _ _ _ h => h) (fun _ => HH) (yl_sub64 (r := ((Y.length - (sp Y.length) : Nat) : Int)) rfl rfl (by omega) (by omega)) rfl rfl ?_; clear HF ac; intro ac HF
              refine dx_k (i := 9) HF rfl (by kernel_rfl) (by kernel_rfl) (by kernel_rfl) (by kernel_rfl) (by kernel_rfl) (fun _ _ _ h => h) HH (ld_ag ag33 rfl rfl) rfl rfl ?_; clear HF ac; intro ac HF
              refine dx_p (i := 10) HF rfl (by kernel_rfl) (by kernel_rfl) (by kernel_rfl) (by decide) (fun _ _ _ h => h) (fun _ => HH) (yl_move rfl) rfl rfl ?_; clear HF ac; intro ac HF
              refine dx_two (i := 11) (j := 13) (by kernel_rfl) ?_ ?_
              · refine op_call (i := 11) HF rfl Tryd.func137 (by kernel_rfl) (by kernel_rfl) (evs_cons rfl (evs_cons rfl (evs_cons rfl (evs_cons rfl (evs_cons rfl evs_nil))))) (second_any (X.length - (sp Y.length)) (Y.length - (sp Y.length)) (rootH (leavesH l)) q p2 q2 w (hqr.below HS.kp) f false x (by omega) (by omega) (by omega) (by omega) hgx (hL.below HS.kp) (Nat.le_trans h2 HS.kp.size)) rfl rfl ?_; clear HF ac
                rintro _ w ⟨rfl, k1⟩
                refine ⟨_, rfl, fun ac HF => ?_⟩
                replace HH := HH.call k1
                replace HS := HS.call k1
                clear k1
                refine ⟨fun _ => HH, ?_⟩
                refine dx_p (i := 12) HF rfl (by kernel_rfl) (by kernel_rfl) (by kernel_rfl) (by decide) (fun _ _ _ h => h) (fun _ => HH) (bd_ar (parts := #[(0, .tmp 98), (1, .tmp 109)]) Tryd.underlying142 sz33 ze142 (evs_cons rfl (evs_cons rfl evs_nil)) (pl := [(0, 32), (32, 32)]) (by decide) (inferInstance : SgW [(32, _), (32, _)]) rfl) rfl rfl ?_; clear HF ac; intro ac HF
                refine dx_one (i := 13) (by kernel_rfl) ?_
                refine op_ef (i := 13) HF rfl rfl rfl (ef_alloc HS ze142) ?_; clear HF HS ac; rintro _ w ac ⟨g19, rfl, HS⟩ HF
                replace HH := HS.d1
                refine ⟨fun _ => HH, ?_⟩
                refine dx_one (i := 14) (by kernel_rfl) ?_
                refine op_ef0 (i := 14) HF rfl rfl (ef_stores HS sz142 rfl rfl rfl rfl) ?_; clear HS; rintro _ w HS
                refine ⟨fun h => absurd h (by decide), ?_⟩
                refine dx_done (by kernel_rfl) ?_
                exact J _ _ ⟨_, HF.sub (by repeat (first | exact ag_nil | refine ag_cons rfl ?_)), HS⟩
              · refine op_ef (i := 13) HF rfl rfl rfl (ef_alloc HS ze142) ?_; clear HF HS ac; rintro _ w ac ⟨g19, rfl, HS⟩ HF
                replace HH := HS.d1
                refine ⟨fun _ => HH, ?_⟩
                refine dx_one (i := 11) (by kernel_rfl) ?_
                refine op_call (i := 11) HF rfl Tryd.func137 (by kernel_rfl) (by kernel_rfl) (evs_cons rfl (evs_cons rfl (evs_cons rfl (evs_cons rfl (evs_cons rfl evs_nil))))) (second_any (X.length - (sp Y.length)) (Y.length - (sp Y.length)) (rootH (leavesH l)) q p2 q2 w (hqr.below HS.kp) f false x (by omega) (by omega) (by omega) (by omega) hgx (hL.below HS.kp) (Nat.le_trans h2 HS.kp.size)) rfl rfl ?_; clear HF ac
                rintro _ w ⟨rfl, k1⟩
                refine ⟨_, rfl, fun ac HF => ?_⟩
                replace HH := HH.call k1
                replace HS := HS.call k1
                clear k1
                refine ⟨fun _ => HH, ?_⟩
                refine dx_p (i := 12) HF rfl (by kernel_rfl) (by kernel_rfl) (by kernel_rfl) (by decide) (fun _ _ _ h => h) (fun _ => HH) (bd_ar (parts := #[(0, .tmp 98), (1, .tmp 109)]) Tryd.underlying142 sz33 ze142 (evs_cons rfl (evs_cons rfl evs_nil)) (pl := [(0, 32), (32, 32)]) (by decide) (inferInstance : SgW [(32, _), (32, _)]) rfl) rfl rfl ?_; clear HF ac; intro ac HF
                refine dx_one (i := 14) (by kernel_rfl) ?_
                refine op_ef0 (i := 14) HF rfl rfl (ef_stores HS sz142 rfl rfl rfl rfl) ?_; clear HS; rintro _ w HS
                refine ⟨fun h => absurd h (by decide), ?_⟩
                refine dx_done (by kernel_rfl) ?_
                exact J _ _ ⟨_, HF.sub (by repeat (first | exact ag_nil | refine ag_cons rfl ?_)), HS⟩
        · intro J
          refine dx_region 13 (by kernel_rfl) HS.drew (fun _ h => h) ?_; clear HS; intro w HS
          have HH := HS
          refine dx_k (i := 0) HF rfl (by kernel_rfl) (by kernel_rfl) (by kernel_rfl) (by kernel_rfl) (by kernel_rfl) (fun _ _ _ h => h) HH (ld_ag ag33 rfl rfl) rfl rfl ?_; clear HF ac; intro ac HF
          refine dx_p (i := 1) HF rfl (by kernel_rfl) (by kernel_rfl) (by kernel_rfl) (by decide) (fun _ _ _ h => h) (fun _ => HH) (yl_move rfl) rfl rfl ?_; clear HF ac; intro ac HF
          refine dx_p (i := 2) HF rfl (by kernel_rfl) (by kernel_rfl) (by kernel_rfl) (by decide) (fun _ _ _ h => h) (fun _ => HH) (yl_len_slice Tryd.underlying61 rfl) rfl rfl ?_; clear HF ac; intro ac HF
          refine dx_p (i := 3) HF rfl (by kernel_rfl) (by kernel_rfl) (by kernel_rfl) (by decide) (fun _ _ _ h => h) (fun _ => HH) (yl_move rfl) rfl rfl ?_; clear HF ac; intro ac HF
          refine dx_p (i := 4) HF rfl (by kernel_rfl) (by kernel_rfl) (by kernel_rfl) (by decide) (fun _ _ _ h => h) (fun _ => HH) (yl_sub64 (r := ((X.length - (sp Y.length) : Nat) : Int)) rfl rfl (by omega) (by omega)) rfl rfl ?_; clear HF ac; intro ac HF
          refine dx_p (i := 5) HF rfl (by kernel_rfl) (by kernel_rfl) (by kernel_rfl) (by decide) (fun _ _ _ h => h) (fun _ => HH) (yl_move rfl) rfl rfl ?_; clear HF ac; intro ac HF
          refine dx_p (i := 6) HF rfl (by kernel_rfl) (by kernel_rfl) (by kernel_rfl) (by decide) (fun _ _ _ h => h) (fun _ => HH) (yl_len_slice Tryd.underlying61 rfl) rfl rfl ?_; clear HF ac; intro ac HF
          refine dx_p (i := 7) HF rfl (by kernel_rfl) (by kernel_rfl) (by kernel_rfl) (by decide) (fun _ _ _ h => h) (fun _ => HH) (yl_move rfl) rfl rfl ?_; clear HF ac; intro ac HF
          refine dx_p (i := 8) HF rfl (by kernel_rfl) (by kernel_rfl) (by kernel_rfl) (by decide) (fun _ _ _ h => h) (fun _ => HH) (yl_sub64 (r := ((Y.length - (sp Y.length) : Nat) : Int)) rfl rfl (by omega) (by omega)) rfl rfl ?_; clear HF ac; intro ac HF
          refine dx_p (i := 9) HF rfl (by kernel_rfl) (by kernel_rfl) (by kernel_rfl) (by decide) (fun _ _ _ h => h) (fun _ => HH) (yl_move rfl) rfl rfl ?_; clear HF ac; intro ac HF
          refine dx_two (i := 10) (j := 12) (by kernel_rfl) ?_ ?_
          · refine op_call (i := 10) HF rfl Tryd.func138 (by kernel_rfl) (by kernel_rfl) (evs_cons rfl (evs_cons rfl (evs_cons rfl evs_nil))) (begun_any (X.length - (sp Y.length)) (Y.length - (sp Y.length)) (rootH (leavesH l)) q p2 q2 w (hqr.below HS.kp) f x (by omega) (by omega) (by omega) (by omega) hgx (hL.below HS.kp) (Nat.le_trans h2 HS.kp.size)) rfl rfl ?_; clear HF ac
            rintro _ w ⟨rfl, k1⟩
            refine ⟨_, rfl, fun ac HF => ?_⟩
            replace HH := HH.call k1
            replace HS := HS.call k1
            clear k1
            refine ⟨fun _ => HH, ?_⟩
            refine dx_p (i := 11) HF rfl (by kernel_rfl) (by kernel_rfl) (by kernel_rfl) (by decide) (fun _ _ _ h => h) (fun _ => HH) (bd_ar (parts := #[(0, .tmp 76), (1, .tmp 86)]) Tryd.underlying142 sz33 ze142 (evs_cons rfl (evs_cons rfl evs_nil)) (pl := [(0, 32), (32, 32)]) (by decide) (inferInstance : SgW [(32, _), (32, _)]) rfl) rfl rfl ?_; clear HF ac; intro ac HF
            refine dx_one (i := 12) (by kernel_rfl) ?_
            refine op_ef (i := 12) HF rfl rfl rfl (ef_alloc HS ze142) ?_; clear HF HS ac; rintro _ w ac ⟨g17, rfl, HS⟩ HF
            replace HH := HS.d1
            refine ⟨fun _ => HH, ?_⟩
            refine dx_one (i := 13) (by kernel_rfl) ?_
            refine op_ef0 (i := 13) HF rfl rfl (ef_stores HS sz142 rfl rfl rfl rfl) ?_; clear HS; rintro _ w HS
            refine ⟨fun h => absurd h (by decide), ?_⟩
            refine dx_done (by kernel_rfl) ?_
            exact J _ _ ⟨_, HF.sub (by repeat (first | exact ag_nil | refine ag_cons rfl ?_)), HS⟩
          · refine op_ef (i := 12) HF rfl rfl rfl (ef_alloc HS ze142) ?_; clear HF HS ac; rintro _ w ac ⟨g17, rfl, HS⟩ HF
            replace HH := HS.d1
            refine ⟨fun _ => HH, ?_⟩
            refine dx_one (i := 10) (by kernel_rfl) ?_
            refine op_call (i := 10) HF rfl Tryd.func138 (by kernel_rfl) (by kernel_rfl) (evs_cons rfl (evs_cons rfl (evs_cons rfl evs_nil))) (begun_any (X.length - (sp Y.length)) (Y.length - (sp Y.length)) (rootH (leavesH l)) q p2 q2 w (hqr.below HS.kp) f x (by omega) (by omega) (by omega) (by omega) hgx (hL.below HS.kp) (Nat.le_trans h2 HS.kp.size)) rfl rfl ?_; clear HF ac
            rintro _ w ⟨rfl, k1⟩
            refine ⟨_, rfl, fun ac HF => ?_⟩
            replace HH := HH.call k1
            replace HS := HS.call k1
            clear k1
            refine ⟨fun _ => HH, ?_⟩
            refine dx_p (i := 11) HF rfl (by kernel_rfl) (by kernel_rfl) (by kernel_rfl) (by decide) (fun _ _ _ h => h) (fun _ => HH) (bd_ar (parts := #[(0, .tmp 76), (1, .tmp 86)]) Tryd.underlying142 sz33 ze142 (evs_cons rfl (evs_cons rfl evs_nil)) (pl := [(0, 32), (32, 32)]) (by decide) (inferInstance : SgW [(32, _), (32, _)]) rfl) rfl rfl ?_; clear HF ac; intro ac HF
            refine dx_one (i := 13) (by kernel_rfl) ?_
            refine op_ef0 (i := 13) HF rfl rfl (ef_stores HS sz142 rfl rfl rfl rfl) ?_; clear HS; rintro _ w HS
            refine ⟨fun h => absurd h (by decide), ?_⟩
            refine dx_done (by kernel_rfl) ?_
            exact J _ _ ⟨_, HF.sub (by repeat (first | exact ag_nil | refine ag_cons rfl ?_)), HS⟩
    · have hXY : X.length = Y.length := by omega
      obtain ⟨f, rfl⟩ : ∃ g, f = g + 1 := ⟨f - 1, by omega⟩
      have hrt := gen_roots (by omega) hg
      have hfd : foundB X Y = true := decide_eq_true ⟨hXY, hrt, fun h => hne (by rw [hXY, List.take_length]; exact h)⟩
      have HLI := fun w (k : Kp [] w0 w) => lists_any X Y a1 b1 c1 e1 w (hX.below k) (fun p hm => ⟨(hp p (hXl p hm)).1.below k, (hp p (hXl p hm)).2⟩) (by omega) (hY.below k) (fun p hm => ⟨(hq p (hYr p hm)).1.below k, (hq p (hYr p hm)).2⟩) (by omega) (hL.below k) (Nat.le_trans h2 k.size)
      simp only [hfd] at HLI
      refine wpList_nil ?_
      refine then_n ?_
      refine cx_false HF rfl ?_
      refine wp_exit ?_
      refine then_x ?_
      refine then_x ?_
      refine blk_hit ?_
      refine then_n ?_
      refine wp_seq ?_
      refine wp_region_lit ?_
      refine sx_y HF HS (yl_move rfl) rfl rfl ?_; clear HF ac; intro ac HF
      refine sx_y HF HS (yl_move rfl) rfl rfl ?_; clear HF ac; intro ac HF
      refine sx_call HF Tryd.func139 (by kernel_rfl) (by kernel_rfl) (evs_cons rfl (evs_cons rfl evs_nil)) (HLI w HS.kp) rfl rfl ?_; clear HF ac
      rintro _ w ⟨xs, zs, a2, c2, b2, e2, rfl, k1, hrb0⟩
      have hrb := hrb0 rfl
      refine ⟨_, rfl, fun ac HF => ?_⟩
      replace HS := HS.joinR2 k1
      clear k1
      refine sx_y HF HS (yl_extract rfl rfl) rfl rfl ?_; clear HF ac; intro ac HF
      refine sx_y HF HS (yl_extract rfl rfl) rfl rfl ?_; clear HF ac; intro ac HF
      refine sx_ef0 HF (ef_stores HS sz85 rfl rfl rfl rfl) rfl ?_; clear HS; rintro _ w HS
      refine sx_y HF HS (yl_assign rfl) rfl rfl ?_; clear HF ac; intro ac HF
      refine wpList_nil ?_
      refine then_n ?_
      refine wp_ret ?_
      exact rt2 rfl HF HS ⟨⟨_, rfl⟩, ld_all ag85 rfl rfl⟩ rfl ⟨_, _, _, _, _, _, rfl, HS.sub (List.nil_sublist _) (List.Sublist.cons_cons _ (List.Sublist.cons_cons _ (List.nil_sublist _))), fun _ => hrb⟩

theorem onV_zero {m n : Nat} {old root : Hsh} {x : Option (Hsh × Hsh)} (h1 : 1 ≤ m) (h : onV m n old root x = 0) : x = some (old, root) := by
  cases x with
  | none => cases h
  | some y =>
    obtain ⟨f, s⟩ := y
    change (if m = 0 ∧ old ≠ shaH [] then (22 : Int) else if m = 0 ∧ 0 < n then 0 else if f ≠ old ∨ s ≠ root then 22 else 0) = 0 at h
    rw [if_neg (by omega), if_neg (by omega)] at h
    by_cases hh : f ≠ old ∨ s ≠ root
    · rw [if_pos hh] at h; cases h
    · rw [show f = old from Decidable.byContradiction fun k => hh (.inl k), show s = root from Decidable.byContradiction fun k => hh (.inr k)]

set_option maxRecDepth 100000 in
theorem on_any (l r : List Pt) (ps : List Hsh) (a b p : Option Addr) (c e q : Nat) (w0 : World) (hr : Rd w0 a l.length c 1 (pts l)) (hp : ∀ p ∈ l, Rd w0 p.a p.l.length p.c 1 (bcs p.l) ∧ p.l.length ≤ 1099511627775) (hll : l.length ≤ 100000) (hs : Rd w0 b r.length e 1 (pts r)) (hq : ∀ p ∈ r, Rd w0 p.a p.l.length p.c 1 (bcs p.l) ∧ p.l.length ≤ 1099511627775) (hlr : r.length ≤ 100000) (hps : Rd w0 p ps.length q 32 (hsc ps)) (hlr2 : l.length ≤ r.length) (hv : onV l.length r.length (rootH (leavesH l)) (rootH (leavesH r)) (bothAll l.length r.length (rootH (leavesH l)) ps) = 0) (hne : ¬ bsOf l = bsOf (r.take l.length)) (hL : Laid w0) (h2 : 4 ≤ w0.heap.size) :
    Calls Tryd.prog 63 #[.agg (sgA (grS a l.length c b r.length e p ps.length q))] w0 (InP w0) := by
  have h1 : 1 ≤ l.length := Classical.byContradiction fun hh => hne (by rw [List.eq_nil_of_length_eq_zero (show l.length = 0 by omega)]; rfl)
  have hg := onV_zero h1 hv
  rw [bothAll_gen h1 hlr2 (by omega)] at hg
  refine calls_st (F := []) (args := [.agg (sgA (grS a l.length c b r.length e p ps.length q))]) Tryd.func63 rfl (n := 56) rfl rfl ?_
  intro ac w HF HS
  refine wp_seq ?_
  refine wp_region_lit ?_
  refine sx_ef HF (ef_boxs HS rfl) rfl rfl ?_; clear HF HS ac; rintro _ w ac ⟨g1, rfl, HS⟩ HF
  refine sx_ef HF (ef_alloc HS ze85) rfl rfl ?_; clear HF HS ac; rintro _ w ac ⟨g2, rfl, HS⟩ HF
  refine sx_y HF HS (yl_assign rfl) rfl rfl ?_; clear HF ac; intro ac HF
  refine sx_y HF HS (yl_assign rfl) rfl rfl ?_; clear HF ac; intro ac HF
  refine wpList_nil ?_
  refine then_n ?_
  refine wp_seq ?_
  refine dx_region 8 (by kernel_rfl) HS.drew (fun _ h => h) ?_; clear HS; intro w HS
  have HH := HS
  refine dx_p (i := 0) HF rfl (by kernel_rfl) (by kernel_rfl) (by kernel_rfl) (by decide) (fun _ _ _ h => h) (fun _ => HH) (fa_st fd93x0 rfl) rfl rfl ?_; clear HF ac; intro ac HF
  refine dx_k (i := 1) HF rfl (by kernel_rfl) (by kernel_rfl) (by kernel_rfl) (by kernel_rfl) (by kernel_rfl) (fun _ _ _ h => h) HH (ld_sc sc61 rfl rfl rfl) rfl rfl ?_; clear HF ac; intro ac HF
  refine dx_p (i := 2) HF rfl (by kernel_rfl) (by kernel_rfl) (by kernel_rfl) (by decide) (fun _ _ _ h => h) (fun _ => HH) (yl_len_slice Tryd.underlying61 rfl) rfl rfl ?_; clear HF ac; intro ac HF
  refine dx_p (i := 3) HF rfl (by kernel_rfl) (by kernel_rfl) (by kernel_rfl) (by decide) (fun _ _ _ h => h) (fun _ => HH) (fa_st fd93x1 rfl) rfl rfl ?_; clear HF ac; intro ac HF
  refine dx_k (i := 4) HF rfl (by kernel_rfl) (by kernel_rfl) (by kernel_rfl) (by kernel_rfl) (by kernel_rfl) (fun _ _ _ h => h) HH (ld_sc sc61 rfl rfl rfl) rfl rfl ?_; clear HF ac; intro ac HF
  refine dx_p (i := 5) HF rfl (by kernel_rfl) (by kernel_rfl) (by kernel_rfl) (by decide) (fun _ _ _ h => h) (fun _ => HH) (yl_len_slice Tryd.underlying61 rfl) rfl rfl ?_; clear HF ac; intro ac HF
  refine dx_p (i := 6) HF rfl (by kernel_rfl) (by kernel_rfl) (by kernel_rfl) (by decide) (fun _ _ _ h => h) (fun _ => HH) (yl_assign rfl) rfl rfl ?_; clear HF ac; intro ac HF
  refine dx_p (i := 7) HF rfl (by kernel_rfl) (by kernel_rfl) (by kernel_rfl) (by decide) (fun _ _ _ h => h) (fun _ => HH) (yl_assign rfl) rfl rfl ?_; clear HF ac; intro ac HF
  refine dx_done (by kernel_rfl) ?_
  clear HH
  refine then_n ?_
  refine wp_seq ?_
  refine wp_seq ?_
  refine wp_region_lit ?_
  refine sx_y HF HS (yl_move rfl) rfl rfl ?_; clear HF ac; intro ac HF
  refine sx_y HF HS (yl_move rfl) rfl rfl ?_; clear HF ac; intro ac HF
  refine sx_y HF HS (yl_gtr rfl rfl (decide_eq_false (by omega))) rfl rfl ?_; clear HF ac; intro ac HF
  refine wpList_nil ?_
  refine then_n ?_
  refine cx_false HF rfl ?_
  refine wp_skip ?_
  refine then_n ?_
  refine wp_seq ?_
  refine dx_region 8 (by kernel_rfl) HS.drew (fun _ h => h) ?_; clear HS; intro w HS
  have HH := HS
  refine dx_p (i := 0) HF rfl (by kernel_rfl) (by kernel_rfl) (by kernel_rfl) (by decide) (fun _ _ _ h => h) (fun _ => HH) (fa_st fd93x0 rfl) rfl rfl ?_; clear HF ac; intro ac HF
  refine dx_k (i := 1) HF rfl (by kernel_rfl) (by kernel_rfl) (by kernel_rfl) (by kernel_rfl) (by kernel_rfl) (fun _ _ _ h => h) HH (ld_sc sc61 rfl rfl rfl) rfl rfl ?_; clear HF ac; intro ac HF
  refine dx_p (i := 3) HF rfl (by kernel_rfl) (by kernel_rfl) (by kernel_rfl) (by decide) (fun _ _ _ h => h) (fun _ => HH) (fa_st fd93x1 rfl) rfl rfl ?_; clear HF ac; intro ac HF
  refine dx_k (i := 4) HF rfl (by kernel_rfl) (by kernel_rfl) (by kernel_rfl) (by kernel_rfl) (by kernel_rfl) (fun _ _ _ h => h) HH (ld_sc sc61 rfl rfl rfl) rfl rfl ?_; clear HF ac; intro ac HF
  refine dx_one (i := 2) (by kernel_rfl) ?_
  refine op_call (i := 2) HF rfl Tryd.func99 (by kernel_rfl) (by kernel_rfl) (evs_cons rfl evs_nil) (leaves_any l a c w (hr.below HS.kp) (fun p hm => (hp p hm).1.below HS.kp) (by omega) (hL.below HS.kp) (Nat.le_trans h2 HS.kp.size)) rfl rfl ?_; clear HF ac
  rintro _ w ⟨_, rfl, a7, c7, rfl, o7, f7, k7⟩
  refine ⟨_, rfl, fun ac HF => ?_⟩
  replace HH := HH.call k7
  replace HS := HS.addRow k7 o7 f7
  clear o7 f7 k7
  refine ⟨fun _ => HH, ?_⟩
  refine dx_one (i := 5) (by kernel_rfl) ?_
  refine op_call (i := 5) HF rfl Tryd.func99 (by kernel_rfl) (by kernel_rfl) (evs_cons rfl evs_nil) (leaves_any r b e w (hs.below HS.kp) (fun p hm => (hq p hm).1.below HS.kp) (by omega) (hL.below HS.kp) (Nat.le_trans h2 HS.kp.size)) rfl rfl ?_; clear HF ac
  rintro _ w ⟨_, rfl, a8, c8, rfl, o7, f7, k7⟩
  refine ⟨_, rfl, fun ac HF => ?_⟩
  replace HH := HH.call k7
  replace HS := HS.addRow k7 o7 f7
  clear o7 f7 k7
  refine ⟨fun _ => HH, ?_⟩
  refine dx_p (i := 6) HF rfl (by kernel_rfl) (by kernel_rfl) (by kernel_rfl) (by decide) (fun _ _ _ h => h) (fun _ => HH) (yl_assign rfl) rfl rfl ?_; clear HF ac; intro ac HF
  refine dx_p (i := 7) HF rfl (by kernel_rfl) (by kernel_rfl) (by kernel_rfl) (by decide) (fun _ _ _ h => h) (fun _ => HH) (yl_assign rfl) rfl rfl ?_; clear HF ac; intro ac HF
  refine dx_done (by kernel_rfl) ?_
  clear HH
  refine then_n ?_
  refine wp_seq ?_
  refine wp_seq ?_
  refine dx_region 10 (by kernel_rfl) HS.drew (fun _ h => h) ?_; clear HS; intro w HS
  have HH := HS
  refine dx_p (i := 0) HF rfl (by kernel_rfl) (by kernel_rfl) (by kernel_rfl) (by decide) (fun _ _ _ h => h) (fun _ => HH) (yl_move rfl) rfl rfl ?_; clear HF ac; intro ac HF
  refine dx_p (i := 1) HF rfl (by kernel_rfl) (by kernel_rfl) (by kernel_rfl) (by decide) (fun _ _ _ h => h) (fun _ => HH) (yl_move rfl) rfl rfl ?_; clear HF ac; intro ac HF
  refine dx_p (i := 2) HF rfl (by kernel_rfl) (by kernel_rfl) (by kernel_rfl) (by decide) (fun _ _ _ h => h) (fun _ => HH) (yl_move rfl) rfl rfl ?_; clear HF ac; intro ac HF
  refine dx_p (i := 4) HF rfl (by kernel_rfl) (by kernel_rfl) (by kernel_rfl) (by decide) (fun _ _ _ h => h) (fun _ => HH) (yl_move rfl) rfl rfl ?_; clear HF ac; intro ac HF
  refine dx_p (i := 6) HF rfl (by kernel_rfl) (by kernel_rfl) (by kernel_rfl) (by decide) (fun _ _ _ h => h) (fun _ => HH) (fa_st fd93x2 rfl) rfl rfl ?_; clear HF ac; intro ac HF
  refine dx_k (i := 7) HF rfl (by kernel_rfl) (by kernel_rfl) (by kernel_rfl) (by kernel_rfl) (by kernel_rfl) (fun _ _ _ h => h) HH (ld_sc sc22 rfl rfl rfl) rfl rfl ?_; clear HF ac; intro ac HF
  refine dx_one (i := 3) (by kernel_rfl) ?_
  refine op_call (i := 3) HF rfl Tryd.func60 (by kernel_rfl) (by kernel_rfl) (evs_cons rfl evs_nil) (root_any (leavesH l) a7 c7 w HS.row1 (hL.below HS.kp) (Nat.le_trans h2 HS.kp.size)) rfl rfl ?_; clear HF ac
  rintro _ w ⟨rfl, k1⟩
  refine ⟨_, rfl, fun ac HF => ?_⟩
  replace HH := HH.call k1
  replace HS := HS.call k1
  clear k1
  refine ⟨fun _ => HH, ?_⟩
  refine dx_one (i := 5) (by kernel_rfl) ?_
  refine op_call (i := 5) HF rfl Tryd.func60 (by kernel_rfl) (by kernel_rfl) (evs_cons rfl evs_nil) (root_any (leavesH r) a8 c8 w HS.row0 (hL.below HS.kp) (Nat.le_trans h2 HS.kp.size)) rfl rfl ?_; clear HF ac
  rintro _ w ⟨rfl, k1⟩
  refine ⟨_, rfl, fun ac HF => ?_⟩
  replace HH := HH.call k1
  replace HS := HS.call k1
  clear k1
  refine ⟨fun _ => HH, ?_⟩
  refine dx_one (i := 8) (by kernel_rfl) ?_
  refine op_call (i := 8) HF rfl Tryd.func64 (by kernel_rfl) (by kernel_rfl) (evs_cons rfl (evs_cons rfl (evs_cons rfl (evs_cons rfl (evs_cons rfl evs_nil))))) (on_good l.length r.length (rootH (leavesH l)) (rootH (leavesH r)) ps p q w (hps.below HS.kp) hlr2 (by omega) (hL.below HS.kp) (Nat.le_trans h2 HS.kp.size)) rfl rfl ?_; clear HF ac
  rintro _ w ⟨rfl, k1⟩
  rw [hv]
  refine ⟨_, rfl, fun ac HF => ?_⟩
  replace HH := HH.call k1
  replace HS := HS.call k1
  clear k1
  refine ⟨fun _ => HH, ?_⟩
  refine dx_p (i := 9) HF rfl (by kernel_rfl) (by kernel_rfl) (by kernel_rfl) (by decide) (fun _ _ _ h => h) (fun _ => HH) (yl_neq rfl rfl (decide_eq_false (by exact (fun h => h rfl)))) rfl rfl ?_; clear HF ac; intro ac HF
  refine dx_done (by kernel_rfl) ?_
  clear HH
  refine then_n ?_
  refine cx_false HF rfl ?_
  refine wp_skip ?_
  refine then_n ?_
  refine wp_seq ?_
  refine wp_seq ?_
  refine dx_region 7 (by kernel_rfl) HS.drew (fun _ h => h) ?_; clear HS; intro w HS
  have HH := HS
  refine dx_p (i := 0) HF rfl (by kernel_rfl) (by kernel_rfl) (by kernel_rfl) (by decide) (fun _ _ _ h => h) (fun _ => HH) (fa_st fd93x0 rfl) rfl rfl ?_; clear HF ac; intro ac HF
  refine dx_k (i := 1) HF rfl (by kernel_rfl) (by kernel_rfl) (by kernel_rfl) (by kernel_rfl) (by kernel_rfl) (fun _ _ _ h => h) HH (ld_sc sc61 rfl rfl rfl) rfl rfl ?_; clear HF ac; intro ac HF
  refine dx_p (i := 2) HF rfl (by kernel_rfl) (by kernel_rfl) (by kernel_rfl) (by decide) (fun _ _ _ h => h) (fun _ => HH) (fa_st fd93x1 rfl) rfl rfl ?_; clear HF ac; intro ac HF
  refine dx_k (i := 3) HF rfl (by kernel_rfl) (by kernel_rfl) (by kernel_rfl) (by kernel_rfl) (by kernel_rfl) (fun _ _ _ h => h) HH (ld_sc sc61 rfl rfl rfl) rfl rfl ?_; clear HF ac; intro ac HF
  refine dx_p (i := 4) HF rfl (by kernel_rfl) (by kernel_rfl) (by kernel_rfl) (by decide) (fun _ _ _ h => h) (fun _ => HH) (yl_move rfl) rfl rfl ?_; clear HF ac; intro ac HF
  have hlm := hs.lim
  refine dx_p (i := 5) HF rfl (by kernel_rfl) (by kernel_rfl) (by kernel_rfl) (by decide) (fun _ _ _ h => h) (fun _ => HH) (sl_hi (r := (r.take l.length).length) Tryd.underlying61 sz39 rfl rfl (by omega) (by rw [List.length_take]; omega)) rfl rfl ?_; clear HF ac; intro ac HF
  refine dx_one (i := 6) (by kernel_rfl) ?_
  refine op_call (i := 6) HF rfl Tryd.func106 (by kernel_rfl) (by kernel_rfl) (evs_cons rfl (evs_cons rfl evs_nil)) (equal_any l a c (r.take l.length) b e w (hr.below HS.kp) (fun p hm => (hp p hm).1.below HS.kp) ((hs.takeP l.length hlr2).below HS.kp) (fun p hm => (hq p (List.mem_of_mem_take hm)).1.below HS.kp)) rfl rfl ?_; clear HF ac
  rintro _ w ⟨rfl, k1⟩
  rw [decide_eq_false hne]
  refine ⟨_, rfl, fun ac HF => ?_⟩
  replace HH := HH.call k1
  replace HS := HS.call k1
  clear k1
  refine ⟨fun _ => HH, ?_⟩
  refine dx_done (by kernel_rfl) ?_
  clear HH
  refine then_n ?_
  refine cx_false HF rfl ?_
  refine wp_skip ?_
  refine then_n ?_
  refine wp_seq ?_
  refine wp_region_lit ?_
  refine sx_y HF HS (fa_st fd93x0 rfl) rfl rfl ?_; clear HF ac; intro ac HF
  refine sx_y HF HS (ld_sc sc61 rfl rfl rfl) rfl rfl ?_; clear HF ac; intro ac HF
  refine sx_y HF HS (fa_st fd93x1 rfl) rfl rfl ?_; clear HF ac; intro ac HF
  refine sx_y HF HS (ld_sc sc61 rfl rfl rfl) rfl rfl ?_; clear HF ac; intro ac HF
  refine sx_y HF HS (fa_st fd93x2 rfl) rfl rfl ?_; clear HF ac; intro ac HF
  refine sx_y HF HS (ld_sc sc22 rfl rfl rfl) rfl rfl ?_; clear HF ac; intro ac HF
  refine sx_call HF Tryd.func107 (by kernel_rfl) (by kernel_rfl) (evs_cons rfl (evs_cons rfl (evs_cons rfl evs_nil))) (grown_any l r ps a b p c e q w (hr.below HS.kp) (fun p hm => ⟨(hp p hm).1.below HS.kp, (hp p hm).2⟩) hll (hs.below HS.kp) (fun p hm => ⟨(hq p hm).1.below HS.kp, (hq p hm).2⟩) hlr (hps.below HS.kp) h1 hlr2 hg hne (hL.below HS.kp) (Nat.le_trans h2 HS.kp.size)) rfl rfl ?_; clear HF ac
  rintro _ w ⟨xs, zs, a2, c2, b2, e2, rfl, k1, hrb0⟩
  have hrb := hrb0 rfl
  refine ⟨_, rfl, fun ac HF => ?_⟩
  replace HS := HS.joinR2 k1
  clear k1
  refine sx_y HF HS (yl_move rfl) rfl rfl ?_; clear HF ac; intro ac HF
  refine sx_y HF HS (yl_extract rfl rfl) rfl rfl ?_; clear HF ac; intro ac HF
  refine sx_y HF HS (yl_extract rfl rfl) rfl rfl ?_; clear HF ac; intro ac HF
  refine sx_ef0 HF (ef_stores HS sz85 rfl rfl rfl rfl) rfl ?_; clear HS; rintro _ w HS
  refine sx_y HF HS (yl_assign rfl) rfl rfl ?_; clear HF ac; intro ac HF
  refine wpList_nil ?_
  refine then_n ?_
  refine wp_seq ?_
  refine wp_region_lit ?_
  refine sx_y HF HS (ld_all ag85 rfl rfl) rfl rfl ?_; clear HF ac; intro ac HF
  refine sx_y HF HS (yl_move rfl) rfl rfl ?_; clear HF ac; intro ac HF
  refine sx_ef0 HF (ef_stores HS sz85 rfl rfl rfl rfl) rfl ?_; clear HS; rintro _ w HS
  refine sx_y HF HS (yl_assign rfl) rfl rfl ?_; clear HF ac; intro ac HF
  refine sx_y HF HS (yl_assign rfl) rfl rfl ?_; clear HF ac; intro ac HF
  refine wpList_nil ?_
  refine then_n ?_
  refine wp_ret ?_
  exact rt3 rfl HF HS ⟨⟨_, rfl⟩, ld_all ag85 rfl rfl⟩ rfl rfl ⟨_, _, _, _, _, _, rfl, HS.sub (List.nil_sublist _) (List.Sublist.cons_cons _ (List.Sublist.cons_cons _ (List.nil_sublist _))), hrb⟩

set_option maxRecDepth 100000 in
theorem begins10_any (l r : List Pt) (a b : Option Addr) (c e : Nat) (w0 : World) (hr : Rd w0 a l.length c 1 (pts l)) (hp : ∀ p ∈ l, Rd w0 p.a p.l.length p.c 1 (bcs p.l)) (hs : Rd w0 b r.length e 1 (pts r)) (hq : ∀ p ∈ r, Rd w0 p.a p.l.length p.c 1 (bcs p.l)) (hle : l.length ≤ r.length) :
    Calls Tryd.prog 65 #[.slice a l.length c, .slice b r.length e] w0 fun e w' => e = .returned (.bool (decide (bsOf l = bsOf (r.take l.length)))) ∧ Kp [] w0 w' := by
  refine calls_st (F := []) (args := [.slice a l.length c, .slice b r.length e]) Tryd.func65 rfl (n := 18) rfl rfl ?_
  intro ac w HF HS
  refine wp_seq ?_
  refine wp_region_lit ?_
  refine sx_y HF HS (yl_assign rfl) rfl rfl ?_; clear HF ac; intro ac HF
  refine wpList_nil ?_
  refine then_n ?_
  refine wp_seq ?_
  refine wp_region_lit ?_
  refine sx_y HF HS (yl_move rfl) rfl rfl ?_; clear HF ac; intro ac HF
  refine sx_y HF HS (yl_len_slice Tryd.underlying61 rfl) rfl rfl ?_; clear HF ac; intro ac HF
  refine sx_y HF HS (yl_move rfl) rfl rfl ?_; clear HF ac; intro ac HF
  refine sx_y HF HS (yl_len_slice Tryd.underlying61 rfl) rfl rfl ?_; clear HF ac; intro ac HF
  refine sx_y HF HS (yl_leq rfl rfl (decide_eq_true (by omega))) rfl rfl ?_; clear HF ac; intro ac HF
  refine sx_y HF HS (yl_move rfl) rfl rfl ?_; clear HF ac; intro ac HF
  refine sx_y HF HS (yl_move rfl) rfl rfl ?_; clear HF ac; intro ac HF
  refine sx_y HF HS (yl_move rfl) rfl rfl ?_; clear HF ac; intro ac HF
  refine sx_y HF HS (yl_move rfl) rfl rfl ?_; clear HF ac; intro ac HF
  refine sx_y HF HS (yl_len_slice Tryd.underlying61 rfl) rfl rfl ?_; clear HF ac; intro ac HF
  have hlm := hs.lim
  refine sx_y HF HS (sl_hi (r := (r.take l.length).length) Tryd.underlying61 sz39 rfl rfl (by omega) (by rw [List.length_take]; omega)) rfl rfl ?_; clear HF ac; intro ac HF
  refine sx_call HF Tryd.func109 (by kernel_rfl) (by kernel_rfl) (evs_cons rfl (evs_cons rfl evs_nil)) (same10_any l a c (r.take l.length) b e w (hr.below HS.kp) (fun p hm => (hp p hm).below HS.kp) ((hs.takeP l.length hle).below HS.kp) (fun p hm => (hq p (List.mem_of_mem_take hm)).below HS.kp)) rfl rfl ?_; clear HF ac
  rintro _ w ⟨rfl, k1⟩
  refine ⟨_, rfl, fun ac HF => ?_⟩
  replace HS := HS.call k1
  clear k1
  refine sx_y HF HS (yl_pick (b := true) rfl rfl) rfl rfl ?_; clear HF ac; intro ac HF
  refine sx_y HF HS (yl_assign rfl) rfl rfl ?_; clear HF ac; intro ac HF
  refine wpList_nil ?_
  refine then_n ?_
  refine wp_ret ?_
  exact rt1 rfl HF HS rfl ⟨rfl, HS.kp⟩

end Go.Proofs.YtalnkhgonfcabaaDoor

namespace Go.Proofs.YtalnkhgonfcabaaDoor.collideOn
open Go.RowKit Go.ChangeShapes Go.WideShapes Go.ChangeAt Go.Proofs.YtalnkhgonfcabaaDoor

/-! ### Types -/
namespace CollO
theorem ag85 : AgT Tryd.prog 85 2 := AgT.mk' Tryd.underlying85 rfl (by kernel_rfl)
theorem ag93 : AgT Tryd.prog 93 3 := AgT.mk' Tryd.underlying93 rfl (by kernel_rfl)
theorem fd93x0 : FdT Tryd.prog 93 0 0 := FdT.mk' (k := 0) Tryd.underlying93 (by kernel_rfl)
theorem fd93x1 : FdT Tryd.prog 93 1 1 := FdT.mk' (k := 0) Tryd.underlying93 (by kernel_rfl)
theorem fd93x2 : FdT Tryd.prog 93 2 2 := FdT.mk' (k := 0) Tryd.underlying93 (by kernel_rfl)
theorem sc22 : ScT Tryd.prog 22 := ScT.mk' Tryd.underlying22 rfl (by kernel_rfl)
theorem sc61 : ScT Tryd.prog 61 := ScT.mk' Tryd.underlying61 rfl (by kernel_rfl)
theorem sz85 : (Tryd.prog.info? 85).map (·.size) = some 2 := by kernel_rfl
theorem ze85 : ZeS Tryd.prog 85 [(1, .slice none 0 0), (1, .slice none 0 0)] := ⟨.agg _, ZeT.mk' (by kernel_rfl), rfl⟩
end CollO
open Go.Proofs.YtalnkhgonfcabaaDoor.collideOn.CollO

theorem reads_growth {H : Type} {enc : TypeId × Value → H} {W : World} {cs : List Value} (h : Reads enc Tryd.prog W 93 cs) :
    ∃ a c l b e r p q ps, cs = [.slice a (l : List Pt).length c, .slice b (r : List Pt).length e, .slice p (ps : List Hsh).length q] ∧ Rd W a l.length c 1 (pts l) ∧ (∀ p ∈ l, Rd W p.a p.l.length p.c 1 (bcs p.l)) ∧ Rd W b r.length e 1 (pts r) ∧ (∀ p ∈ r, Rd W p.a p.l.length p.c 1 (bcs p.l)) ∧ Rd W p ps.length q 32 (hsc ps) := by
  obtain ⟨hl, hf⟩ := reads_fields Tryd.underlying93 h
  have c4 : Tryd.prog.cellsOf 93 = 3 := by kernel_rfl
  have c32 : Tryd.prog.cellsOf 33 = 32 := by kernel_rfl
  have csl : Tryd.prog.cellsOf 22 = 1 := by kernel_rfl
  have csb : Tryd.prog.cellsOf 61 = 1 := by kernel_rfl
  have cs1 : Tryd.prog.cellsOf 39 = 1 := by kernel_rfl
  have cu : Tryd.prog.cellsOf 5 = 1 := by kernel_rfl
  have f0 : Reads enc Tryd.prog W 61 ((cs.drop 0).take (Tryd.prog.cellsOf 61)) := hf 0 _ rfl
  have f1 : Reads enc Tryd.prog W 61 ((cs.drop 1).take (Tryd.prog.cellsOf 61)) := hf 1 _ rfl
  have f2 : Reads enc Tryd.prog W 22 ((cs.drop 2).take (Tryd.prog.cellsOf 22)) := hf 2 _ rfl
  rw [csb] at f0 f1
  rw [csl] at f2
  rw [c4] at hl
  obtain ⟨a0, c0, l0, e0, r0, q0⟩ := reads_bytess Tryd.underlying61 Tryd.underlying39 Tryd.underlying5 cs1 cu f0
  obtain ⟨a1, c1, l1, e1, r1, q1⟩ := reads_bytess Tryd.underlying61 Tryd.underlying39 Tryd.underlying5 cs1 cu f1
  obtain ⟨a2, c2, l2, e2, r2⟩ := reads_hashes Tryd.underlying22 Tryd.underlying33 Tryd.underlying5 cu c32 f2
  refine ⟨a0, c0, l0, a1, c1, l1, a2, c2, l2, ?_, r0, q0, r1, q1, r2⟩
  have s2 : (cs.drop 2).take 1 = cs.drop 2 := List.take_of_length_le (by rw [List.length_drop]; omega)
  have es : cs = cs.take 1 ++ ((cs.drop 1).take 1 ++ cs.drop 2) := by
    have t1 : (cs.drop 1).take 1 ++ cs.drop 2 = cs.drop 1 := by
      have := List.take_append_drop 1 (cs.drop 1); rwa [List.drop_drop] at this
    rw [t1, List.take_append_drop]
  rw [List.drop_zero] at e0
  rw [es, e0, e1, ← s2, e2]; rfl
theorem yl_neB {P : Program} {S : World → Prop} {m : List (Nat × Value)} {x y : Operand} {t : TypeId} (hu : P.underlying t = some .bool) {p q b : Bool} (hx : ev m x = some (.bool p)) (hy : ev m y = some (.bool q)) (h : decide (p ≠ q) = b) : Yl P S (.binOp .neq t x y t) m (.bool b) :=
  yl_bin hx hy fun w _ => by
    rw [← h]
    have h1 := run_equal_bool (P := P) w t p q hu
    have h2 : (!(p == q)) = decide (p ≠ q) := by cases p <;> cases q <;> rfl
    simp [eqGuard, binOp, h1, h2]

set_option maxRecDepth 100000 in
theorem walk_a (l r : List Pt) (ps : List Hsh) (a b p : Option Addr) (c e q : Nat) (w0 : World) (hr : Rd w0 a l.length c 1 (pts l)) (hp : ∀ p ∈ l, Rd w0 p.a p.l.length p.c 1 (bcs p.l)) (_hs : Rd w0 b r.length e 1 (pts r)) (_hq : ∀ p ∈ r, Rd w0 p.a p.l.length p.c 1 (bcs p.l)) (_hps : Rd w0 p ps.length q 32 (hsc ps)) (hb : smallB l = false) (hL : Laid w0) (h2 : 4 ≤ w0.heap.size) :
    Calls Tryd.prog 13 #[.agg (sgA (grS a l.length c b r.length e p ps.length q))] w0 fun e w' => e = .returned (.bool true) ∧ Kp [] w0 w' := by
  refine calls_st (F := []) (args := [.agg (sgA (grS a l.length c b r.length e p ps.length q))]) Tryd.func13 rfl (n := 93) rfl rfl ?_
  intro ac w HF HS
  refine wp_seq ?_
  refine wp_region_lit ?_
  refine sx_ef HF (ef_boxs HS rfl) rfl rfl ?_; clear HF HS ac; rintro _ w ac ⟨g1, rfl, HS⟩ HF
  refine sx_y HF HS (yl_assign rfl) rfl rfl ?_; clear HF ac; intro ac HF
  refine wpList_nil ?_
  refine then_n ?_
  refine wp_seq ?_
  refine wp_seq ?_
  refine wp_region_lit ?_
  refine sx_y HF HS (fa_st fd93x0 rfl) rfl rfl ?_; clear HF ac; intro ac HF
  refine sx_y HF HS (ld_sc sc61 rfl rfl rfl) rfl rfl ?_; clear HF ac; intro ac HF
  refine sx_call HF Tryd.func56 (by kernel_rfl) (by kernel_rfl) (evs_cons rfl evs_nil) (small10_any l a c w (hr.below HS.kp) (fun p hm => (hp p hm).below HS.kp)) rfl rfl ?_; clear HF ac
  rintro _ w ⟨rfl, k1⟩
  rw [hb]
  refine ⟨_, rfl, fun ac HF => ?_⟩
  replace HS := HS.call k1
  clear k1
  refine sx_y HF HS (yl_not rfl) rfl rfl ?_; clear HF ac; intro ac HF
  refine sx_y HF HS (yl_move rfl) rfl rfl ?_; clear HF ac; intro ac HF
  refine sx_off HF rfl rfl ?_; clear HF ac; intro ac HF
  refine sx_off HF rfl rfl ?_; clear HF ac; intro ac HF
  refine sx_off HF rfl rfl ?_; clear HF ac; intro ac HF
  refine sx_off HF rfl rfl ?_; clear HF ac; intro ac HF
  refine sx_y HF HS (yl_pick (b := true) rfl rfl) rfl rfl ?_; clear HF ac; intro ac HF
  refine sx_y HF HS (yl_move rfl) rfl rfl ?_; clear HF ac; intro ac HF
  refine sx_off HF rfl rfl ?_; clear HF ac; intro ac HF
  refine sx_off HF rfl rfl ?_; clear HF ac; intro ac HF
  refine sx_off HF rfl rfl ?_; clear HF ac; intro ac HF
  refine sx_off HF rfl rfl ?_; clear HF ac; intro ac HF
  refine sx_y HF HS (yl_pick (b := true) rfl rfl) rfl rfl ?_; clear HF ac; intro ac HF
  refine wpList_nil ?_
  refine then_n ?_
  refine cx_true HF rfl ?_
  refine wp_seq ?_
  refine wp_region_lit ?_
  refine sx_call HF Tryd.func57 (by kernel_rfl) (by kernel_rfl) evs_nil (awake10_any w (hL.below HS.kp) (Nat.le_trans h2 HS.kp.size)) rfl rfl ?_; clear HF ac
  rintro _ w ⟨rfl, k1⟩
  refine ⟨_, rfl, fun ac HF => ?_⟩
  replace HS := HS.call k1
  clear k1
  refine sx_y HF HS (yl_assign rfl) rfl rfl ?_; clear HF ac; intro ac HF
  refine wpList_nil ?_
  refine then_n ?_
  refine wp_ret ?_
  refine then_r ?_
  exact rt1 rfl HF HS rfl ⟨rfl, HS.kp⟩

set_option maxRecDepth 100000 in
theorem walk_b (l r : List Pt) (ps : List Hsh) (a b p : Option Addr) (c e q : Nat) (w0 : World) (hr : Rd w0 a l.length c 1 (pts l)) (hp : ∀ p ∈ l, Rd w0 p.a p.l.length p.c 1 (bcs p.l)) (hs : Rd w0 b r.length e 1 (pts r)) (hq : ∀ p ∈ r, Rd w0 p.a p.l.length p.c 1 (bcs p.l)) (_hps : Rd w0 p ps.length q 32 (hsc ps)) (hb : smallB l = true) (hb2 : smallB r = false) (hL : Laid w0) (h2 : 4 ≤ w0.heap.size) :
    Calls Tryd.prog 13 #[.agg (sgA (grS a l.length c b r.length e p ps.length q))] w0 fun e w' => e = .returned (.bool true) ∧ Kp [] w0 w' := by
  refine calls_st (F := []) (args := [.agg (sgA (grS a l.length c b r.length e p ps.length q))]) Tryd.func13 rfl (n := 93) rfl rfl ?_
  intro ac w HF HS
  refine wp_seq ?_
  refine wp_region_lit ?_
  refine sx_ef HF (ef_boxs HS rfl) rfl rfl ?_; clear HF HS ac; rintro _ w ac ⟨g1, rfl, HS⟩ HF
  refine sx_y HF HS (yl_assign rfl) rfl rfl ?_; clear HF ac; intro ac HF
  refine wpList_nil ?_
  refine then_n ?_
  refine wp_seq ?_
  refine wp_seq ?_
  refine wp_region_lit ?_
  refine sx_y HF HS (fa_st fd93x0 rfl) rfl rfl ?_; clear HF ac; intro ac HF
  refine sx_y HF HS (ld_sc sc61 rfl rfl rfl) rfl rfl ?_; clear HF ac; intro ac HF
  refine sx_call HF Tryd.func56 (by kernel_rfl) (by kernel_rfl) (evs_cons rfl evs_nil) (small10_any l a c w (hr.below HS.kp) (fun p hm => (hp p hm).below HS.kp)) rfl rfl ?_; clear HF ac
  rintro _ w ⟨rfl, k1⟩
  rw [hb]
  refine ⟨_, rfl, fun ac HF => ?_⟩
  replace HS := HS.call k1
  clear k1
  refine sx_y HF HS (yl_not rfl) rfl rfl ?_; clear HF ac; intro ac HF
  refine sx_y HF HS (yl_move rfl) rfl rfl ?_; clear HF ac; intro ac HF
  refine sx_y HF HS (fa_st fd93x1 rfl) rfl rfl ?_; clear HF ac; intro ac HF
  refine sx_y HF HS (ld_sc sc61 rfl rfl rfl) rfl rfl ?_; clear HF ac; intro ac HF
  refine sx_call HF Tryd.func56 (by kernel_rfl) (by kernel_rfl) (evs_cons rfl evs_nil) (small10_any r b e w (hs.below HS.kp) (fun p hm => (hq p hm).below HS.kp)) rfl rfl ?_; clear HF ac
  rintro _ w ⟨rfl, k1⟩
  rw [hb2]
  refine ⟨_, rfl, fun ac HF => ?_⟩
  replace HS := HS.call k1
  clear k1
  refine sx_y HF HS (yl_not rfl) rfl rfl ?_; clear HF ac; intro ac HF
  refine sx_y HF HS (yl_pick (b := false) rfl rfl) rfl rfl ?_; clear HF ac; intro ac HF
  refine sx_y HF HS (yl_move rfl) rfl rfl ?_; clear HF ac; intro ac HF
  refine sx_off HF rfl rfl ?_; clear HF ac; intro ac HF
  refine sx_off HF rfl rfl ?_; clear HF ac; intro ac HF
  refine sx_off HF rfl rfl ?_; clear HF ac; intro ac HF
  refine sx_off HF rfl rfl ?_; clear HF ac; intro ac HF
  refine sx_y HF HS (yl_pick (b := true) rfl rfl) rfl rfl ?_; clear HF ac; intro ac HF
  refine wpList_nil ?_
  refine then_n ?_
  refine cx_true HF rfl ?_
  refine wp_seq ?_
  refine wp_region_lit ?_
  refine sx_call HF Tryd.func57 (by kernel_rfl) (by kernel_rfl) evs_nil (awake10_any w (hL.below HS.kp) (Nat.le_trans h2 HS.kp.size)) rfl rfl ?_; clear HF ac
  rintro _ w ⟨rfl, k1⟩
  refine ⟨_, rfl, fun ac HF => ?_⟩
  replace HS := HS.call k1
  clear k1
  refine sx_y HF HS (yl_assign rfl) rfl rfl ?_; clear HF ac; intro ac HF
  refine wpList_nil ?_
  refine then_n ?_
  refine wp_ret ?_
  refine then_r ?_
  exact rt1 rfl HF HS rfl ⟨rfl, HS.kp⟩

set_option maxRecDepth 100000 in
theorem walk_c (l r : List Pt) (ps : List Hsh) (a b p : Option Addr) (c e q : Nat) (w0 : World) (hr : Rd w0 a l.length c 1 (pts l)) (hp : ∀ p ∈ l, Rd w0 p.a p.l.length p.c 1 (bcs p.l)) (hs : Rd w0 b r.length e 1 (pts r)) (hq : ∀ p ∈ r, Rd w0 p.a p.l.length p.c 1 (bcs p.l)) (_hps : Rd w0 p ps.length q 32 (hsc ps)) (hb : smallB l = true) (hb2 : smallB r = true) (hk : 50 < ps.length) (hL : Laid w0) (h2 : 4 ≤ w0.heap.size) :
    Calls Tryd.prog 13 #[.agg (sgA (grS a l.length c b r.length e p ps.length q))] w0 fun e w' => e = .returned (.bool true) ∧ Kp [] w0 w' := by
  refine calls_st (F := []) (args := [.agg (sgA (grS a l.length c b r.length e p ps.length q))]) Tryd.func13 rfl (n := 93) rfl rfl ?_
  intro ac w HF HS
  refine wp_seq ?_
  refine wp_region_lit ?_
  refine sx_ef HF (ef_boxs HS rfl) rfl rfl ?_; clear HF HS ac; rintro _ w ac ⟨g1, rfl, HS⟩ HF
  refine sx_y HF HS (yl_assign rfl) rfl rfl ?_; clear HF ac; intro ac HF
  refine wpList_nil ?_
  refine then_n ?_
  refine wp_seq ?_
  refine wp_seq ?_
  refine wp_region_lit ?_
  refine sx_y HF HS (fa_st fd93x0 rfl) rfl rfl ?_; clear HF ac; intro ac HF
  refine sx_y HF HS (ld_sc sc61 rfl rfl rfl) rfl rfl ?_; clear HF ac; intro ac HF
  refine sx_call HF Tryd.func56 (by kernel_rfl) (by kernel_rfl) (evs_cons rfl evs_nil) (small10_any l a c w (hr.below HS.kp) (fun p hm => (hp p hm).below HS.kp)) rfl rfl ?_; clear HF ac
  rintro _ w ⟨rfl, k1⟩
  rw [hb]
  refine ⟨_, rfl, fun ac HF => ?_⟩
  replace HS := HS.call k1
  clear k1
  refine sx_y HF HS (yl_not rfl) rfl rfl ?_; clear HF ac; intro ac HF
  refine sx_y HF HS (yl_move rfl) rfl rfl ?_; clear HF ac; intro ac HF
  refine sx_y HF HS (fa_st fd93x1 rfl) rfl rfl ?_; clear HF ac; intro ac HF
  refine sx_y HF HS (ld_sc sc61 rfl rfl rfl) rfl rfl ?_; clear HF ac; intro ac HF
  refine sx_call HF Tryd.func56 (by kernel_rfl) (by kernel_rfl) (evs_cons rfl evs_nil) (small10_any r b e w (hs.below HS.kp) (fun p hm => (hq p hm).below HS.kp)) rfl rfl ?_; clear HF ac
  rintro _ w ⟨rfl, k1⟩
  rw [hb2]
  refine ⟨_, rfl, fun ac HF => ?_⟩
  replace HS := HS.call k1
  clear k1
  refine sx_y HF HS (yl_not rfl) rfl rfl ?_; clear HF ac; intro ac HF
  refine sx_y HF HS (yl_pick (b := false) rfl rfl) rfl rfl ?_; clear HF ac; intro ac HF
  refine sx_y HF HS (yl_move rfl) rfl rfl ?_; clear HF ac; intro ac HF
  refine sx_y HF HS (fa_st fd93x2 rfl) rfl rfl ?_; clear HF ac; intro ac HF
  refine sx_y HF HS (ld_sc sc22 rfl rfl rfl) rfl rfl ?_; clear HF ac; intro ac HF
  refine sx_y HF HS (yl_len_slice Tryd.underlying22 rfl) rfl rfl ?_; clear HF ac; intro ac HF
  refine sx_y HF HS (yl_gtr rfl rfl (decide_eq_true (by omega))) rfl rfl ?_; clear HF ac; intro ac HF
  refine sx_y HF HS (yl_pick (b := false) rfl rfl) rfl rfl ?_; clear HF ac; intro ac HF
  refine wpList_nil ?_
  refine then_n ?_
  refine cx_true HF rfl ?_
  refine wp_seq ?_
  refine wp_region_lit ?_
  refine sx_call HF Tryd.func57 (by kernel_rfl) (by kernel_rfl) evs_nil (awake10_any w (hL.below HS.kp) (Nat.le_trans h2 HS.kp.size)) rfl rfl ?_; clear HF ac
  rintro _ w ⟨rfl, k1⟩
  refine ⟨_, rfl, fun ac HF => ?_⟩
  replace HS := HS.call k1
  clear k1
  refine sx_y HF HS (yl_assign rfl) rfl rfl ?_; clear HF ac; intro ac HF
  refine wpList_nil ?_
  refine then_n ?_
  refine wp_ret ?_
  refine then_r ?_
  exact rt1 rfl HF HS rfl ⟨rfl, HS.kp⟩

set_option maxRecDepth 100000 in
theorem walk_d (l r : List Pt) (ps : List Hsh) (a b p : Option Addr) (c e q : Nat) (w0 : World) (hr : Rd w0 a l.length c 1 (pts l)) (hp : ∀ p ∈ l, Rd w0 p.a p.l.length p.c 1 (bcs p.l)) (hs : Rd w0 b r.length e 1 (pts r)) (hq : ∀ p ∈ r, Rd w0 p.a p.l.length p.c 1 (bcs p.l)) (_hps : Rd w0 p ps.length q 32 (hsc ps)) (hb : smallB l = true) (hb2 : smallB r = true) (hk : ps.length ≤ 50) (h : r.length < l.length) (hL : Laid w0) (h2 : 4 ≤ w0.heap.size) :
    Calls Tryd.prog 13 #[.agg (sgA (grS a l.length c b r.length e p ps.length q))] w0 fun e w' => e = .returned (.bool true) ∧ Kp [] w0 w' := by
  obtain ⟨hsl, hll⟩ := smallB_is hb
  obtain ⟨hsr, hlr⟩ := smallB_is hb2
  have hp2 : ∀ p ∈ l, Rd w0 p.a p.l.length p.c 1 (bcs p.l) ∧ p.l.length ≤ 1099511627775 := fun p hm => ⟨hp p hm, by have := hsl p hm; omega⟩
  have hq2 : ∀ p ∈ r, Rd w0 p.a p.l.length p.c 1 (bcs p.l) ∧ p.l.length ≤ 1099511627775 := fun p hm => ⟨hq p hm, by have := hsr p hm; omega⟩
  refine calls_st (F := []) (args := [.agg (sgA (grS a l.length c b r.length e p ps.length q))]) Tryd.func13 rfl (n := 93) rfl rfl ?_
  intro ac w HF HS
  refine wp_seq ?_
  refine wp_region_lit ?_
  refine sx_ef HF (ef_boxs HS rfl) rfl rfl ?_; clear HF HS ac; rintro _ w ac ⟨g1, rfl, HS⟩ HF
  refine sx_y HF HS (yl_assign rfl) rfl rfl ?_; clear HF ac; intro ac HF
  refine wpList_nil ?_
  refine then_n ?_
  refine wp_seq ?_
  refine wp_seq ?_
  refine wp_region_lit ?_
  refine sx_y HF HS (fa_st fd93x0 rfl) rfl rfl ?_; clear HF ac; intro ac HF
  refine sx_y HF HS (ld_sc sc61 rfl rfl rfl) rfl rfl ?_; clear HF ac; intro ac HF
  refine sx_call HF Tryd.func56 (by kernel_rfl) (by kernel_rfl) (evs_cons rfl evs_nil) (small10_any l a c w (hr.below HS.kp) (fun p hm => (hp p hm).below HS.kp)) rfl rfl ?_; clear HF ac
  rintro _ w ⟨rfl, k1⟩
  rw [hb]
  refine ⟨_, rfl, fun ac HF => ?_⟩
  replace HS := HS.call k1
  clear k1
  refine sx_y HF HS (yl_not rfl) rfl rfl ?_; clear HF ac; intro ac HF
  refine sx_y HF HS (yl_move rfl) rfl rfl ?_; clear HF ac; intro ac HF
  refine sx_y HF HS (fa_st fd93x1 rfl) rfl rfl ?_; clear HF ac; intro ac HF
  refine sx_y HF HS (ld_sc sc61 rfl rfl rfl) rfl rfl ?_; clear HF ac; intro ac HF
  refine sx_call HF Tryd.func56 (by kernel_rfl) (by kernel_rfl) (evs_cons rfl evs_nil) (small10_any r b e w (hs.below HS.kp) (fun p hm => (hq p hm).below HS.kp)) rfl rfl ?_; clear HF ac
  rintro _ w ⟨rfl, k1⟩
  rw [hb2]
  refine ⟨_, rfl, fun ac HF => ?_⟩
  replace HS := HS.call k1
  clear k1
  refine sx_y HF HS (yl_not rfl) rfl rfl ?_; clear HF ac; intro ac HF
  refine sx_y HF HS (yl_pick (b := false) rfl rfl) rfl rfl ?_; clear HF ac; intro ac HF
  refine sx_y HF HS (yl_move rfl) rfl rfl ?_; clear HF ac; intro ac HF
  refine sx_y HF HS (fa_st fd93x2 rfl) rfl rfl ?_; clear HF ac; intro ac HF
  refine sx_y HF HS (ld_sc sc22 rfl rfl rfl) rfl rfl ?_; clear HF ac; intro ac HF
  refine sx_y HF HS (yl_len_slice Tryd.underlying22 rfl) rfl rfl ?_; clear HF ac; intro ac HF
  refine sx_y HF HS (yl_gtr rfl rfl (decide_eq_false (by omega))) rfl rfl ?_; clear HF ac; intro ac HF
  refine sx_y HF HS (yl_pick (b := false) rfl rfl) rfl rfl ?_; clear HF ac; intro ac HF
  refine wpList_nil ?_
  refine then_n ?_
  refine cx_false HF rfl ?_
  refine wp_skip ?_
  refine then_n ?_
  refine wp_seq ?_
  refine wp_region_lit ?_
  refine sx_y HF HS (ld_all ag93 rfl rfl) rfl rfl ?_; clear HF ac; intro ac HF
  refine sx_call HF Tryd.func63 (by kernel_rfl) (by kernel_rfl) (evs_cons rfl evs_nil) (on_range p ps.length q a l.length c b r.length e w h) rfl rfl ?_; clear HF ac
  rintro _ w ⟨rfl, k1⟩
  refine ⟨_, rfl, fun ac HF => ?_⟩
  replace HS := HS.call k1
  clear k1
  refine sx_y HF HS (yl_move rfl) rfl rfl ?_; clear HF ac; intro ac HF
  refine sx_y HF HS (yl_extract rfl rfl) rfl rfl ?_; clear HF ac; intro ac HF
  refine sx_y HF HS (yl_extract rfl rfl) rfl rfl ?_; clear HF ac; intro ac HF
  refine sx_y HF HS (yl_extract rfl rfl) rfl rfl ?_; clear HF ac; intro ac HF
  refine sx_ef HF (ef_alloc HS ze85) rfl rfl ?_; clear HF HS ac; rintro _ w ac ⟨g3, rfl, HS⟩ HF
  refine sx_ef0 HF (ef_stores HS sz85 rfl rfl rfl rfl) rfl ?_; clear HS; rintro _ w HS
  refine sx_y HF HS (yl_assign rfl) rfl rfl ?_; clear HF ac; intro ac HF
  refine sx_y HF HS (yl_assign rfl) rfl rfl ?_; clear HF ac; intro ac HF
  refine wpList_nil ?_
  refine then_n ?_
  refine wp_seq ?_
  refine wp_seq ?_
  refine wp_region_lit ?_
  refine sx_y HF HS (fa_st fd93x0 rfl) rfl rfl ?_; clear HF ac; intro ac HF
  refine sx_y HF HS (ld_sc sc61 rfl rfl rfl) rfl rfl ?_; clear HF ac; intro ac HF
  refine sx_y HF HS (yl_len_slice Tryd.underlying61 rfl) rfl rfl ?_; clear HF ac; intro ac HF
  refine sx_y HF HS (fa_st fd93x1 rfl) rfl rfl ?_; clear HF ac; intro ac HF
  refine sx_y HF HS (ld_sc sc61 rfl rfl rfl) rfl rfl ?_; clear HF ac; intro ac HF
  refine sx_y HF HS (yl_len_slice Tryd.underlying61 rfl) rfl rfl ?_; clear HF ac; intro ac HF
  refine sx_y HF HS (yl_gtr rfl rfl (decide_eq_true (by omega))) rfl rfl ?_; clear HF ac; intro ac HF
  refine wpList_nil ?_
  refine then_n ?_
  refine cx_true HF rfl ?_
  refine wp_seq ?_
  refine wp_region_lit ?_
  refine sx_y HF HS (yl_move rfl) rfl rfl ?_; clear HF ac; intro ac HF
  refine sx_y HF HS (yl_eql rfl rfl (decide_eq_true (by exact rfl))) rfl rfl ?_; clear HF ac; intro ac HF
  refine sx_y HF HS (yl_move rfl) rfl rfl ?_; clear HF ac; intro ac HF
  refine sx_y HF HS (yl_move rfl) rfl rfl ?_; clear HF ac; intro ac HF
  refine sx_y HF HS (yl_not rfl) rfl rfl ?_; clear HF ac; intro ac HF
  refine sx_y HF HS (yl_pick (b := true) rfl rfl) rfl rfl ?_; clear HF ac; intro ac HF
  refine sx_y HF HS (yl_move rfl) rfl rfl ?_; clear HF ac; intro ac HF
  refine sx_call HF Tryd.func57 (by kernel_rfl) (by kernel_rfl) evs_nil (awake10_any w (hL.below HS.kp) (Nat.le_trans h2 HS.kp.size)) rfl rfl ?_; clear HF ac
  rintro _ w ⟨rfl, k1⟩
  refine ⟨_, rfl, fun ac HF => ?_⟩
  replace HS := HS.call k1
  clear k1
  refine sx_y HF HS (yl_pick (b := true) rfl rfl) rfl rfl ?_; clear HF ac; intro ac HF
  refine sx_y HF HS (yl_assign rfl) rfl rfl ?_; clear HF ac; intro ac HF
  refine wpList_nil ?_
  refine then_n ?_
  refine wp_ret ?_
  refine then_r ?_
  exact rt1 rfl HF HS rfl ⟨rfl, HS.kp⟩

set_option maxRecDepth 100000 in
theorem walk_e (l r : List Pt) (ps : List Hsh) (a b p : Option Addr) (c e q : Nat) (w0 : World) (hr : Rd w0 a l.length c 1 (pts l)) (hp : ∀ p ∈ l, Rd w0 p.a p.l.length p.c 1 (bcs p.l)) (hs : Rd w0 b r.length e 1 (pts r)) (hq : ∀ p ∈ r, Rd w0 p.a p.l.length p.c 1 (bcs p.l)) (hps : Rd w0 p ps.length q 32 (hsc ps)) (hb : smallB l = true) (hb2 : smallB r = true) (hk : ps.length ≤ 50) (hle : l.length ≤ r.length) (hv : onV l.length r.length (rootH (leavesH l)) (rootH (leavesH r)) (bothAll l.length r.length (rootH (leavesH l)) ps) = 22) (hL : Laid w0) (h2 : 4 ≤ w0.heap.size) :
    Calls Tryd.prog 13 #[.agg (sgA (grS a l.length c b r.length e p ps.length q))] w0 fun e w' => e = .returned (.bool true) ∧ Kp [] w0 w' := by
  obtain ⟨hsl, hll⟩ := smallB_is hb
  obtain ⟨hsr, hlr⟩ := smallB_is hb2
  have hp2 : ∀ p ∈ l, Rd w0 p.a p.l.length p.c 1 (bcs p.l) ∧ p.l.length ≤ 1099511627775 := fun p hm => ⟨hp p hm, by have := hsl p hm; omega⟩
  have hq2 : ∀ p ∈ r, Rd w0 p.a p.l.length p.c 1 (bcs p.l) ∧ p.l.length ≤ 1099511627775 := fun p hm => ⟨hq p hm, by have := hsr p hm; omega⟩
  refine calls_st (F := []) (args := [.agg (sgA (grS a l.length c b r.length e p ps.length q))]) Tryd.func13 rfl (n := 93) rfl rfl ?_
  intro ac w HF HS
  refine wp_seq ?_
  refine wp_region_lit ?_
  refine sx_ef HF (ef_boxs HS rfl) rfl rfl ?_; clear HF HS ac; rintro _ w ac ⟨g1, rfl, HS⟩ HF
  refine sx_y HF HS (yl_assign rfl) rfl rfl ?_; clear HF ac; intro ac HF
  refine wpList_nil ?_
  refine then_n ?_
  refine wp_seq ?_
  refine wp_seq ?_
  refine wp_region_lit ?_
  refine sx_y HF HS (fa_st fd93x0 rfl) rfl rfl ?_; clear HF ac; intro ac HF
  refine sx_y HF HS (ld_sc sc61 rfl rfl rfl) rfl rfl ?_; clear HF ac; intro ac HF
  refine sx_call HF Tryd.func56 (by kernel_rfl) (by kernel_rfl) (evs_cons rfl evs_nil) (small10_any l a c w (hr.below HS.kp) (fun p hm => (hp p hm).below HS.kp)) rfl rfl ?_; clear HF ac
  rintro _ w ⟨rfl, k1⟩
  rw [hb]
  refine ⟨_, rfl, fun ac HF => ?_⟩
  replace HS := HS.call k1
  clear k1
  refine sx_y HF HS (yl_not rfl) rfl rfl ?_; clear HF ac; intro ac HF
  refine sx_y HF HS (yl_move rfl) rfl rfl ?_; clear HF ac; intro ac HF
  refine sx_y HF HS (fa_st fd93x1 rfl) rfl rfl ?_; clear HF ac; intro ac HF
  refine sx_y HF HS (ld_sc sc61 rfl rfl rfl) rfl rfl ?_; clear HF ac; intro ac HF
  refine sx_call HF Tryd.func56 (by kernel_rfl) (by kernel_rfl) (evs_cons rfl evs_nil) (small10_any r b e w (hs.below HS.kp) (fun p hm => (hq p hm).below HS.kp)) rfl rfl ?_; clear HF ac
  rintro _ w ⟨rfl, k1⟩
  rw [hb2]
  refine ⟨_, rfl, fun ac HF => ?_⟩
  replace HS := HS.call k1
  clear k1
  refine sx_y HF HS (yl_not rfl) rfl rfl ?_; clear HF ac; intro ac HF
  refine sx_y HF HS (yl_pick (b := false) rfl rfl) rfl rfl ?_; clear HF ac; intro ac HF
  refine sx_y HF HS (yl_move rfl) rfl rfl ?_; clear HF ac; intro ac HF
  refine sx_y HF HS (fa_st fd93x2 rfl) rfl rfl ?_; clear HF ac; intro ac HF
  refine sx_y HF HS (ld_sc sc22 rfl rfl rfl) rfl rfl ?_; clear HF ac; intro ac HF
  refine sx_y HF HS (yl_len_slice Tryd.underlying22 rfl) rfl rfl ?_; clear HF ac; intro ac HF
  refine sx_y HF HS (yl_gtr rfl rfl (decide_eq_false (by omega))) rfl rfl ?_; clear HF ac; intro ac HF
  refine sx_y HF HS (yl_pick (b := false) rfl rfl) rfl rfl ?_; clear HF ac; intro ac HF
  refine wpList_nil ?_
  refine then_n ?_
  refine cx_false HF rfl ?_
  refine wp_skip ?_
  refine then_n ?_
  refine wp_seq ?_
  refine wp_region_lit ?_
  refine sx_y HF HS (ld_all ag93 rfl rfl) rfl rfl ?_; clear HF ac; intro ac HF
  refine sx_call HF Tryd.func63 (by kernel_rfl) (by kernel_rfl) (evs_cons rfl evs_nil) (on_proof l r ps a b p c e q w (hr.below HS.kp) (fun p hm => ⟨(hp2 p hm).1.below HS.kp, (hp2 p hm).2⟩) (by omega) (hs.below HS.kp) (fun p hm => ⟨(hq2 p hm).1.below HS.kp, (hq2 p hm).2⟩) (by omega) (hps.below HS.kp) hle hv (hL.below HS.kp) (Nat.le_trans h2 HS.kp.size)) rfl rfl ?_; clear HF ac
  rintro _ w ⟨rfl, k1⟩
  refine ⟨_, rfl, fun ac HF => ?_⟩
  replace HS := HS.call k1
  clear k1
  refine sx_y HF HS (yl_move rfl) rfl rfl ?_; clear HF ac; intro ac HF
  refine sx_y HF HS (yl_extract rfl rfl) rfl rfl ?_; clear HF ac; intro ac HF
  refine sx_y HF HS (yl_extract rfl rfl) rfl rfl ?_; clear HF ac; intro ac HF
  refine sx_y HF HS (yl_extract rfl rfl) rfl rfl ?_; clear HF ac; intro ac HF
  refine sx_ef HF (ef_alloc HS ze85) rfl rfl ?_; clear HF HS ac; rintro _ w ac ⟨g3, rfl, HS⟩ HF
  refine sx_ef0 HF (ef_stores HS sz85 rfl rfl rfl rfl) rfl ?_; clear HS; rintro _ w HS
  refine sx_y HF HS (yl_assign rfl) rfl rfl ?_; clear HF ac; intro ac HF
  refine sx_y HF HS (yl_assign rfl) rfl rfl ?_; clear HF ac; intro ac HF
  refine wpList_nil ?_
  refine then_n ?_
  refine wp_seq ?_
  refine wp_seq ?_
  refine wp_region_lit ?_
  refine sx_y HF HS (fa_st fd93x0 rfl) rfl rfl ?_; clear HF ac; intro ac HF
  refine sx_y HF HS (ld_sc sc61 rfl rfl rfl) rfl rfl ?_; clear HF ac; intro ac HF
  refine sx_y HF HS (yl_len_slice Tryd.underlying61 rfl) rfl rfl ?_; clear HF ac; intro ac HF
  refine sx_y HF HS (fa_st fd93x1 rfl) rfl rfl ?_; clear HF ac; intro ac HF
  refine sx_y HF HS (ld_sc sc61 rfl rfl rfl) rfl rfl ?_; clear HF ac; intro ac HF
  refine sx_y HF HS (yl_len_slice Tryd.underlying61 rfl) rfl rfl ?_; clear HF ac; intro ac HF
  refine sx_y HF HS (yl_gtr rfl rfl (decide_eq_false (by omega))) rfl rfl ?_; clear HF ac; intro ac HF
  refine wpList_nil ?_
  refine then_n ?_
  refine cx_false HF rfl ?_
  refine wp_skip ?_
  refine then_n ?_
  refine wp_seq ?_
  refine wp_seq ?_
  refine dx_region 18 (by kernel_rfl) HS.drew (fun _ h => h) ?_; clear HS; intro w HS
  have HH := HS
  refine dx_p (i := 0) HF rfl (by kernel_rfl) (by kernel_rfl) (by kernel_rfl) (by decide) (fun _ _ _ h => h) (fun _ => HH) (fa_st fd93x0 rfl) rfl rfl ?_; clear HF ac; intro ac HF
  refine dx_k (i := 1) HF rfl (by kernel_rfl) (by kernel_rfl) (by kernel_rfl) (by kernel_rfl) (by kernel_rfl) (fun _ _ _ h => h) HH (ld_sc sc61 rfl rfl rfl) rfl rfl ?_; clear HF ac; intro ac HF
  refine dx_p (i := 2) HF rfl (by kernel_rfl) (by kernel_rfl) (by kernel_rfl) (by decide) (fun _ _ _ h => h) (fun _ => HH) (yl_len_slice Tryd.underlying61 rfl) rfl rfl ?_; clear HF ac; intro ac HF
  refine dx_p (i := 3) HF rfl (by kernel_rfl) (by kernel_rfl) (by kernel_rfl) (by decide) (fun _ _ _ h => h) (fun _ => HH) (fa_st fd93x1 rfl) rfl rfl ?_; clear HF ac; intro ac HF
  refine dx_k (i := 4) HF rfl (by kernel_rfl) (by kernel_rfl) (by kernel_rfl) (by kernel_rfl) (by kernel_rfl) (fun _ _ _ h => h) HH (ld_sc sc61 rfl rfl rfl) rfl rfl ?_; clear HF ac; intro ac HF
  refine dx_p (i := 5) HF rfl (by kernel_rfl) (by kernel_rfl) (by kernel_rfl) (by decide) (fun _ _ _ h => h) (fun _ => HH) (yl_len_slice Tryd.underlying61 rfl) rfl rfl ?_; clear HF ac; intro ac HF
  refine dx_p (i := 6) HF rfl (by kernel_rfl) (by kernel_rfl) (by kernel_rfl) (by decide) (fun _ _ _ h => h) (fun _ => HH) (fa_st fd93x0 rfl) rfl rfl ?_; clear HF ac; intro ac HF
  refine dx_k (i := 7) HF rfl (by kernel_rfl) (by kernel_rfl) (by kernel_rfl) (by kernel_rfl) (by kernel_rfl) (fun _ _ _ h => h) HH (ld_sc sc61 rfl rfl rfl) rfl rfl ?_; clear HF ac; intro ac HF
  refine dx_p (i := 10) HF rfl (by kernel_rfl) (by kernel_rfl) (by kernel_rfl) (by decide) (fun _ _ _ h => h) (fun _ => HH) (fa_st fd93x1 rfl) rfl rfl ?_; clear HF ac; intro ac HF
  refine dx_k (i := 11) HF rfl (by kernel_rfl) (by kernel_rfl) (by kernel_rfl) (by kernel_rfl) (by kernel_rfl) (fun _ _ _ h => h) HH (ld_sc sc61 rfl rfl rfl) rfl rfl ?_; clear HF ac; intro ac HF
  refine dx_p (i := 14) HF rfl (by kernel_rfl) (by kernel_rfl) (by kernel_rfl) (by decide) (fun _ _ _ h => h) (fun _ => HH) (fa_st fd93x2 rfl) rfl rfl ?_; clear HF ac; intro ac HF
  refine dx_k (i := 15) HF rfl (by kernel_rfl) (by kernel_rfl) (by kernel_rfl) (by kernel_rfl) (by kernel_rfl) (fun _ _ _ h => h) HH (ld_sc sc22 rfl rfl rfl) rfl rfl ?_; clear HF ac; intro ac HF
  refine dx_one (i := 8) (by kernel_rfl) ?_
  refine op_call (i := 8) HF rfl Tryd.func61 (by kernel_rfl) (by kernel_rfl) (evs_cons rfl evs_nil) (hashes10_any l a c w (hr.below HS.kp) (fun p hm => (hp p hm).below HS.kp) (by omega) (hL.below HS.kp) (Nat.le_trans h2 HS.kp.size)) rfl rfl ?_; clear HF ac
  rintro _ w ⟨a7, c7, rfl, k1⟩
  refine ⟨_, rfl, fun ac HF => ?_⟩
  replace HH := HH.call k1.kp
  replace HS := HS.joinR1 k1
  clear k1
  refine ⟨fun _ => HH, ?_⟩
  refine dx_one (i := 9) (by kernel_rfl) ?_
  refine op_call (i := 9) HF rfl Tryd.func60 (by kernel_rfl) (by kernel_rfl) (evs_cons rfl evs_nil) (root_any (leavesH l) a7 c7 w HS.row0 (hL.below HS.kp) (Nat.le_trans h2 HS.kp.size)) rfl rfl ?_; clear HF ac
  rintro _ w ⟨rfl, k1⟩
  refine ⟨_, rfl, fun ac HF => ?_⟩
  replace HH := HH.call k1
  replace HS := HS.call k1
  clear k1
  refine ⟨fun _ => HH, ?_⟩
  refine dx_one (i := 12) (by kernel_rfl) ?_
  refine op_call (i := 12) HF rfl Tryd.func61 (by kernel_rfl) (by kernel_rfl) (evs_cons rfl evs_nil) (hashes10_any r b e w (hs.below HS.kp) (fun p hm => (hq p hm).below HS.kp) (by omega) (hL.below HS.kp) (Nat.le_trans h2 HS.kp.size)) rfl rfl ?_; clear HF ac
  rintro _ w ⟨a8, c8, rfl, k1⟩
  refine ⟨_, rfl, fun ac HF => ?_⟩
  replace HH := HH.call k1.kp
  replace HS := HS.joinR1 k1
  clear k1
  refine ⟨fun _ => HH, ?_⟩
  refine dx_one (i := 13) (by kernel_rfl) ?_
  refine op_call (i := 13) HF rfl Tryd.func60 (by kernel_rfl) (by kernel_rfl) (evs_cons rfl evs_nil) (root_any (leavesH r) a8 c8 w HS.row0 (hL.below HS.kp) (Nat.le_trans h2 HS.kp.size)) rfl rfl ?_; clear HF ac
  rintro _ w ⟨rfl, k1⟩
  refine ⟨_, rfl, fun ac HF => ?_⟩
  replace HH := HH.call k1
  replace HS := HS.call k1
  clear k1
  refine ⟨fun _ => HH, ?_⟩
  refine dx_one (i := 16) (by kernel_rfl) ?_
  refine op_call (i := 16) HF rfl Tryd.func64 (by kernel_rfl) (by kernel_rfl) (evs_cons rfl (evs_cons rfl (evs_cons rfl (evs_cons rfl (evs_cons rfl evs_nil))))) (on_good l.length r.length (rootH (leavesH l)) (rootH (leavesH r)) ps p q w (hps.below HS.kp) hle (by omega) (hL.below HS.kp) (Nat.le_trans h2 HS.kp.size)) rfl rfl ?_; clear HF ac
  rintro _ w ⟨rfl, k1⟩
  rw [hv]
  refine ⟨_, rfl, fun ac HF => ?_⟩
  replace HH := HH.call k1
  replace HS := HS.call k1
  clear k1
  refine ⟨fun _ => HH, ?_⟩
  refine dx_p (i := 17) HF rfl (by kernel_rfl) (by kernel_rfl) (by kernel_rfl) (by decide) (fun _ _ _ h => h) (fun _ => HH) (yl_neq rfl rfl (decide_eq_true (by exact (by decide)))) rfl rfl ?_; clear HF ac; intro ac HF
  refine dx_done (by kernel_rfl) ?_
  clear HH
  refine then_n ?_
  refine cx_true HF rfl ?_
  refine wp_seq ?_
  refine wp_region_lit ?_
  refine sx_y HF HS (yl_move rfl) rfl rfl ?_; clear HF ac; intro ac HF
  refine sx_y HF HS (yl_eql rfl rfl (decide_eq_true (by exact rfl))) rfl rfl ?_; clear HF ac; intro ac HF
  refine sx_y HF HS (yl_move rfl) rfl rfl ?_; clear HF ac; intro ac HF
  refine sx_y HF HS (yl_move rfl) rfl rfl ?_; clear HF ac; intro ac HF
  refine sx_y HF HS (yl_not rfl) rfl rfl ?_; clear HF ac; intro ac HF
  refine sx_y HF HS (yl_pick (b := true) rfl rfl) rfl rfl ?_; clear HF ac; intro ac HF
  refine sx_y HF HS (yl_move rfl) rfl rfl ?_; clear HF ac; intro ac HF
  refine sx_call HF Tryd.func57 (by kernel_rfl) (by kernel_rfl) evs_nil (awake10_any w (hL.below HS.kp) (Nat.le_trans h2 HS.kp.size)) rfl rfl ?_; clear HF ac
  rintro _ w ⟨rfl, k1⟩
  refine ⟨_, rfl, fun ac HF => ?_⟩
  replace HS := HS.call k1
  clear k1
  refine sx_y HF HS (yl_pick (b := true) rfl rfl) rfl rfl ?_; clear HF ac; intro ac HF
  refine sx_y HF HS (yl_assign rfl) rfl rfl ?_; clear HF ac; intro ac HF
  refine wpList_nil ?_
  refine then_n ?_
  refine wp_ret ?_
  refine then_r ?_
  exact rt1 rfl HF HS rfl ⟨rfl, HS.kp⟩

set_option maxRecDepth 100000 in
theorem walk_f (l r : List Pt) (ps : List Hsh) (a b p : Option Addr) (c e q : Nat) (w0 : World) (hr : Rd w0 a l.length c 1 (pts l)) (hp : ∀ p ∈ l, Rd w0 p.a p.l.length p.c 1 (bcs p.l)) (hs : Rd w0 b r.length e 1 (pts r)) (hq : ∀ p ∈ r, Rd w0 p.a p.l.length p.c 1 (bcs p.l)) (hps : Rd w0 p ps.length q 32 (hsc ps)) (hb : smallB l = true) (hb2 : smallB r = true) (hk : ps.length ≤ 50) (hle : l.length ≤ r.length) (hv : onV l.length r.length (rootH (leavesH l)) (rootH (leavesH r)) (bothAll l.length r.length (rootH (leavesH l)) ps) = 0) (heq : bsOf l = bsOf (r.take l.length)) (hL : Laid w0) (h2 : 4 ≤ w0.heap.size) :
    Calls Tryd.prog 13 #[.agg (sgA (grS a l.length c b r.length e p ps.length q))] w0 fun e w' => e = .returned (.bool true) ∧ Kp [] w0 w' := by
  obtain ⟨hsl, hll⟩ := smallB_is hb
  obtain ⟨hsr, hlr⟩ := smallB_is hb2
  have hp2 : ∀ p ∈ l, Rd w0 p.a p.l.length p.c 1 (bcs p.l) ∧ p.l.length ≤ 1099511627775 := fun p hm => ⟨hp p hm, by have := hsl p hm; omega⟩
  have hq2 : ∀ p ∈ r, Rd w0 p.a p.l.length p.c 1 (bcs p.l) ∧ p.l.length ≤ 1099511627775 := fun p hm => ⟨hq p hm, by have := hsr p hm; omega⟩
  refine calls_st (F := []) (args := [.agg (sgA (grS a l.length c b r.length e p ps.length q))]) Tryd.func13 rfl (n := 93) rfl rfl ?_
  intro ac w HF HS
  refine wp_seq ?_
  refine wp_region_lit ?_
  refine sx_ef HF (ef_boxs HS rfl) rfl rfl ?_; clear HF HS ac; rintro _ w ac ⟨g1, rfl, HS⟩ HF
  refine sx_y HF HS (yl_assign rfl) rfl rfl ?_; clear HF ac; intro ac HF
  refine wpList_nil ?_
  refine then_n ?_
  refine wp_seq ?_
  refine wp_seq ?_
  refine wp_region_lit ?_
  refine sx_y HF HS (fa_st fd93x0 rfl) rfl rfl ?_; clear HF ac; intro ac HF
  refine sx_y HF HS (ld_sc sc61 rfl rfl rfl) rfl rfl ?_; clear HF ac; intro ac HF
  refine sx_call HF Tryd.func56 (by kernel_rfl) (by kernel_rfl) (evs_cons rfl evs_nil) (small10_any l a c w (hr.below HS.kp) (fun p hm => (hp p hm).below HS.kp)) rfl rfl ?_; clear HF ac
  rintro _ w ⟨rfl, k1⟩
  rw [hb]
  refine ⟨_, rfl, fun ac HF => ?_⟩
  replace HS := HS.call k1
  clear k1
  refine sx_y HF HS (yl_not rfl) rfl rfl ?_; clear HF ac; intro ac HF
  refine sx_y HF HS (yl_move rfl) rfl rfl ?_; clear HF ac; intro ac HF
  refine sx_y HF HS (fa_st fd93x1 rfl) rfl rfl ?_; clear HF ac; intro ac HF
  refine sx_y HF HS (ld_sc sc61 rfl rfl rfl) rfl rfl ?_; clear HF ac; intro ac HF
  refine sx_call HF Tryd.func56 (by kernel_rfl) (by kernel_rfl) (evs_cons rfl evs_nil) (small10_any r b e w (hs.below HS.kp) (fun p hm => (hq p hm).below HS.kp)) rfl rfl ?_; clear HF ac
  rintro _ w ⟨rfl, k1⟩
  rw [hb2]
  refine ⟨_, rfl, fun ac HF => ?_⟩
  replace HS := HS.call k1
  clear k1
  refine sx_y HF HS (yl_not rfl) rfl rfl ?_; clear HF ac; intro ac HF
  refine sx_y HF HS (yl_pick (b := false) rfl rfl) rfl rfl ?_; clear HF ac; intro ac HF
  refine sx_y HF HS (yl_move rfl) rfl rfl ?_; clear HF ac; intro ac HF
  refine sx_y HF HS (fa_st fd93x2 rfl) rfl rfl ?_; clear HF ac; intro ac HF
  refine sx_y HF HS (ld_sc sc22 rfl rfl rfl) rfl rfl ?_; clear HF ac; intro ac HF
  refine sx_y HF HS (yl_len_slice Tryd.underlying22 rfl) rfl rfl ?_; clear HF ac; intro ac HF
  refine sx_y HF HS (yl_gtr rfl rfl (decide_eq_false (by omega))) rfl rfl ?_; clear HF ac; intro ac HF
  refine sx_y HF HS (yl_pick (b := false) rfl rfl) rfl rfl ?_; clear HF ac; intro ac HF
  refine wpList_nil ?_
  refine then_n ?_
  refine cx_false HF rfl ?_
  refine wp_skip ?_
  refine then_n ?_
  refine wp_seq ?_
  refine wp_region_lit ?_
  refine sx_y HF HS (ld_all ag93 rfl rfl) rfl rfl ?_; clear HF ac; intro ac HF
  refine sx_call HF Tryd.func63 (by kernel_rfl) (by kernel_rfl) (evs_cons rfl evs_nil) (on_same l r ps a b p c e q w (hr.below HS.kp) (fun p hm => ⟨(hp2 p hm).1.below HS.kp, (hp2 p hm).2⟩) (by omega) (hs.below HS.kp) (fun p hm => ⟨(hq2 p hm).1.below HS.kp, (hq2 p hm).2⟩) (by omega) (hps.below HS.kp) hle hv heq (hL.below HS.kp) (Nat.le_trans h2 HS.kp.size)) rfl rfl ?_; clear HF ac
  rintro _ w ⟨rfl, k1⟩
  refine ⟨_, rfl, fun ac HF => ?_⟩
  replace HS := HS.call k1
  clear k1
  refine sx_y HF HS (yl_move rfl) rfl rfl ?_; clear HF ac; intro ac HF
  refine sx_y HF HS (yl_extract rfl rfl) rfl rfl ?_; clear HF ac; intro ac HF
  refine sx_y HF HS (yl_extract rfl rfl) rfl rfl ?_; clear HF ac; intro ac HF
  refine sx_y HF HS (yl_extract rfl rfl) rfl rfl ?_; clear HF ac; intro ac HF
  refine sx_ef HF (ef_alloc HS ze85) rfl rfl ?_; clear HF HS ac; rintro _ w ac ⟨g3, rfl, HS⟩ HF
  refine sx_ef0 HF (ef_stores HS sz85 rfl rfl rfl rfl) rfl ?_; clear HS; rintro _ w HS
  refine sx_y HF HS (yl_assign rfl) rfl rfl ?_; clear HF ac; intro ac HF
  refine sx_y HF HS (yl_assign rfl) rfl rfl ?_; clear HF ac; intro ac HF
  refine wpList_nil ?_
  refine then_n ?_
  refine wp_seq ?_
  refine wp_seq ?_
  refine wp_region_lit ?_
  refine sx_y HF HS (fa_st fd93x0 rfl) rfl rfl ?_; clear HF ac; intro ac HF
  refine sx_y HF HS (ld_sc sc61 rfl rfl rfl) rfl rfl ?_; clear HF ac; intro ac HF
  refine sx_y HF HS (yl_len_slice Tryd.underlying61 rfl) rfl rfl ?_; clear HF ac; intro ac HF
  refine sx_y HF HS (fa_st fd93x1 rfl) rfl rfl ?_; clear HF ac; intro ac HF
  refine sx_y HF HS (ld_sc sc61 rfl rfl rfl) rfl rfl ?_; clear HF ac; intro ac HF
  refine sx_y HF HS (yl_len_slice Tryd.underlying61 rfl) rfl rfl ?_; clear HF ac; intro ac HF
  refine sx_y HF HS (yl_gtr rfl rfl (decide_eq_false (by omega))) rfl rfl ?_; clear HF ac; intro ac HF
  refine wpList_nil ?_
  refine then_n ?_
  refine cx_false HF rfl ?_
  refine wp_skip ?_
  refine then_n ?_
  refine wp_seq ?_
  refine wp_seq ?_
  refine dx_region 18 (by kernel_rfl) HS.drew (fun _ h => h) ?_; clear HS; intro w HS
  have HH := HS
  refine dx_p (i := 0) HF rfl (by kernel_rfl) (by kernel_rfl) (by kernel_rfl) (by decide) (fun _ _ _ h => h) (fun _ => HH) (fa_st fd93x0 rfl) rfl rfl ?_; clear HF ac; intro ac HF
  refine dx_k (i := 1) HF rfl (by kernel_rfl) (by kernel_rfl) (by kernel_rfl) (by kernel_rfl) (by kernel_rfl) (fun _ _ _ h => h) HH (ld_sc sc61 rfl rfl rfl) rfl rfl ?_; clear HF ac; intro ac HF
  refine dx_p (i := 2) HF rfl (by kernel_rfl) (by kernel_rfl) (by kernel_rfl) (by decide) (fun _ _ _ h => h) (fun _ => HH) (yl_len_slice Tryd.underlying61 rfl) rfl rfl ?_; clear HF ac; intro ac HF
  refine dx_p (i := 3) HF rfl (by kernel_rfl) (by kernel_rfl) (by kernel_rfl) (by decide) (fun _ _ _ h => h) (fun _ => HH) (fa_st fd93x1 rfl) rfl rfl ?_; clear HF ac; intro ac HF
  refine dx_k (i := 4) HF rfl (by kernel_rfl) (by kernel_rfl) (by kernel_rfl) (by kernel_rfl) (by kernel_rfl) (fun _ _ _ h => h) HH (ld_sc sc61 rfl rfl rfl) rfl rfl ?_; clear HF ac; intro ac HF
  refine dx_p (i := 5) HF rfl (by kernel_rfl) (by kernel_rfl) (by kernel_rfl) (by decide) (fun _ _ _ h => h) (fun _ => HH) (yl_len_slice Tryd.underlying61 rfl) rfl rfl ?_; clear HF ac; intro ac HF
  refine dx_p (i := 6) HF rfl (by kernel_rfl) (by kernel_rfl) (by kernel_rfl) (by decide) (fun _ _ _ h => h) (fun _ => HH) (fa_st fd93x0 rfl) rfl rfl ?_; clear HF ac; intro ac HF
  refine dx_k (i := 7) HF rfl (by kernel_rfl) (by kernel_rfl) (by kernel_rfl) (by kernel_rfl) (by kernel_rfl) (fun _ _ _ h => h) HH (ld_sc sc61 rfl rfl rfl) rfl rfl ?_; clear HF ac; intro ac HF
  refine dx_p (i := 10) HF rfl (by kernel_rfl) (by kernel_rfl) (by kernel_rfl) (by decide) (fun _ _ _ h => h) (fun _ => HH) (fa_st fd93x1 rfl) rfl rfl ?_; clear HF ac; intro ac HF
  refine dx_k (i := 11) HF rfl (by kernel_rfl) (by kernel_rfl) (by kernel_rfl) (by kernel_rfl) (by kernel_rfl) (fun _ _ _ h => h) HH (ld_sc sc61 rfl rfl rfl) rfl rfl ?_; clear HF ac; intro ac HF
  refine dx_p (i := 14) HF rfl (by kernel_rfl) (by kernel_rfl) (by kernel_rfl) (by decide) (fun _ _ _ h => h) (fun _ => HH) (fa_st fd93x2 rfl) rfl rfl ?_; clear HF ac; intro ac HF
  refine dx_k (i := 15) HF rfl (by kernel_rfl) (by kernel_rfl) (by kernel_rfl) (by kernel_rfl) (by kernel_rfl) (fun _ _ _ h => h) HH (ld_sc sc22 rfl rfl rfl) rfl rfl ?_; clear HF ac; intro ac HF
  refine dx_one (i := 8) (by kernel_rfl) ?_
  refine op_call (i := 8) HF rfl Tryd.func61 (by kernel_rfl) (by kernel_rfl) (evs_cons rfl evs_nil) (hashes10_any l a c w (hr.below HS.kp) (fun p hm => (hp p hm).below HS.kp) (by omega) (hL.below HS.kp) (Nat.le_trans h2 HS.kp.size)) rfl rfl ?_; clear HF ac
  rintro _ w ⟨a7, c7, rfl, k1⟩
  refine ⟨_, rfl, fun ac HF => ?_⟩
  replace HH := HH.call k1.kp
  replace HS := HS.joinR1 k1
  clear k1
  refine ⟨fun _ => HH, ?_⟩
  refine dx_one (i := 9) (by kernel_rfl) ?_
  refine op_call (i := 9) HF rfl Tryd.func60 (by kernel_rfl) (by kernel_rfl) (evs_cons rfl evs_nil) (root_any (leavesH l) a7 c7 w HS.row0 (hL.below HS.kp) (Nat.le_trans h2 HS.kp.size)) rfl rfl ?_; clear HF ac
  rintro _ w ⟨rfl, k1⟩
  refine ⟨_, rfl, fun ac HF => ?_⟩
  replace HH := HH.call k1
  replace HS := HS.call k1
  clear k1
  refine ⟨fun _ => HH, ?_⟩
  refine dx_one (i := 12) (by kernel_rfl) ?_
  refine op_call (i := 12) HF rfl Tryd.func61 (by kernel_rfl) (by kernel_rfl) (evs_cons rfl evs_nil) (hashes10_any r b e w (hs.below HS.kp) (fun p hm => (hq p hm).below HS.kp) (by omega) (hL.below HS.kp) (Nat.le_trans h2 HS.kp.size)) rfl rfl ?_; clear HF ac
  rintro _ w ⟨a8, c8, rfl, k1⟩
  refine ⟨_, rfl, fun ac HF => ?_⟩
  replace HH := HH.call k1.kp
  replace HS := HS.joinR1 k1
  clear k1
  refine ⟨fun _ => HH, ?_⟩
  refine dx_one (i := 13) (by kernel_rfl) ?_
  refine op_call (i := 13) HF rfl Tryd.func60 (by kernel_rfl) (by kernel_rfl) (evs_cons rfl evs_nil) (root_any (leavesH r) a8 c8 w HS.row0 (hL.below HS.kp) (Nat.le_trans h2 HS.kp.size)) rfl rfl ?_; clear HF ac
  rintro _ w ⟨rfl, k1⟩
  refine ⟨_, rfl, fun ac HF => ?_⟩
  replace HH := HH.call k1
  replace HS := HS.call k1
  clear k1
  refine ⟨fun _ => HH, ?_⟩
  refine dx_one (i := 16) (by kernel_rfl) ?_
  refine op_call (i := 16) HF rfl Tryd.func64 (by kernel_rfl) (by kernel_rfl) (evs_cons rfl (evs_cons rfl (evs_cons rfl (evs_cons rfl (evs_cons rfl evs_nil))))) (on_good l.length r.length (rootH (leavesH l)) (rootH (leavesH r)) ps p q w (hps.below HS.kp) hle (by omega) (hL.below HS.kp) (Nat.le_trans h2 HS.kp.size)) rfl rfl ?_; clear HF ac
  rintro _ w ⟨rfl, k1⟩
  rw [hv]
  refine ⟨_, rfl, fun ac HF => ?_⟩
  replace HH := HH.call k1
  replace HS := HS.call k1
  clear k1
  refine ⟨fun _ => HH, ?_⟩
  refine dx_p (i := 17) HF rfl (by kernel_rfl) (by kernel_rfl) (by kernel_rfl) (by decide) (fun _ _ _ h => h) (fun _ => HH) (yl_neq rfl rfl (decide_eq_false (by exact (fun h => h rfl)))) rfl rfl ?_; clear HF ac; intro ac HF
  refine dx_done (by kernel_rfl) ?_
  clear HH
  refine then_n ?_
  refine cx_false HF rfl ?_
  refine wp_skip ?_
  refine then_n ?_
  refine wp_seq ?_
  refine wp_seq ?_
  refine wp_region_lit ?_
  refine sx_y HF HS (yl_move rfl) rfl rfl ?_; clear HF ac; intro ac HF
  refine sx_y HF HS (yl_neq rfl rfl (decide_eq_false (by exact (fun h => h rfl)))) rfl rfl ?_; clear HF ac; intro ac HF
  refine sx_y HF HS (yl_move rfl) rfl rfl ?_; clear HF ac; intro ac HF
  refine sx_y HF HS (yl_move rfl) rfl rfl ?_; clear HF ac; intro ac HF
  refine sx_y HF HS (fa_st fd93x0 rfl) rfl rfl ?_; clear HF ac; intro ac HF
  refine sx_y HF HS (ld_sc sc61 rfl rfl rfl) rfl rfl ?_; clear HF ac; intro ac HF
  refine sx_y HF HS (fa_st fd93x1 rfl) rfl rfl ?_; clear HF ac; intro ac HF
  refine sx_y HF HS (ld_sc sc61 rfl rfl rfl) rfl rfl ?_; clear HF ac; intro ac HF
  refine sx_call HF Tryd.func65 (by kernel_rfl) (by kernel_rfl) (evs_cons rfl (evs_cons rfl evs_nil)) (begins10_any l r a b c e w (hr.below HS.kp) (fun p hm => (hp p hm).below HS.kp) (hs.below HS.kp) (fun p hm => (hq p hm).below HS.kp) hle) rfl rfl ?_; clear HF ac
  rintro _ w ⟨rfl, k1⟩
  rw [decide_eq_true heq]
  refine ⟨_, rfl, fun ac HF => ?_⟩
  replace HS := HS.call k1
  clear k1
  refine sx_y HF HS (yl_not rfl) rfl rfl ?_; clear HF ac; intro ac HF
  refine sx_y HF HS (yl_neB Tryd.underlying4 rfl rfl rfl) rfl rfl ?_; clear HF ac; intro ac HF
  refine sx_y HF HS (yl_pick (b := false) rfl rfl) rfl rfl ?_; clear HF ac; intro ac HF
  refine wpList_nil ?_
  refine then_n ?_
  refine cx_false HF rfl ?_
  refine wp_skip ?_
  refine then_n ?_
  refine wp_seq ?_
  refine wp_region_lit ?_
  refine sx_y HF HS (yl_move rfl) rfl rfl ?_; clear HF ac; intro ac HF
  refine sx_y HF HS (yl_not rfl) rfl rfl ?_; clear HF ac; intro ac HF
  refine sx_y HF HS (yl_move rfl) rfl rfl ?_; clear HF ac; intro ac HF
  refine sx_off HF rfl rfl ?_; clear HF ac; intro ac HF
  refine sx_off HF rfl rfl ?_; clear HF ac; intro ac HF
  refine sx_y HF HS (yl_pick (b := true) rfl rfl) rfl rfl ?_; clear HF ac; intro ac HF
  refine sx_y HF HS (yl_move rfl) rfl rfl ?_; clear HF ac; intro ac HF
  refine sx_call HF Tryd.func57 (by kernel_rfl) (by kernel_rfl) evs_nil (awake10_any w (hL.below HS.kp) (Nat.le_trans h2 HS.kp.size)) rfl rfl ?_; clear HF ac
  rintro _ w ⟨rfl, k1⟩
  refine ⟨_, rfl, fun ac HF => ?_⟩
  replace HS := HS.call k1
  clear k1
  refine sx_y HF HS (yl_pick (b := true) rfl rfl) rfl rfl ?_; clear HF ac; intro ac HF
  refine sx_y HF HS (yl_assign rfl) rfl rfl ?_; clear HF ac; intro ac HF
  refine wpList_nil ?_
  refine then_n ?_
  refine wp_ret ?_
  exact rt1 rfl HF HS rfl ⟨rfl, HS.kp⟩

set_option maxRecDepth 100000 in
theorem walk_g (l r : List Pt) (ps : List Hsh) (a b p : Option Addr) (c e q : Nat) (w0 : World) (hr : Rd w0 a l.length c 1 (pts l)) (hp : ∀ p ∈ l, Rd w0 p.a p.l.length p.c 1 (bcs p.l)) (hs : Rd w0 b r.length e 1 (pts r)) (hq : ∀ p ∈ r, Rd w0 p.a p.l.length p.c 1 (bcs p.l)) (hps : Rd w0 p ps.length q 32 (hsc ps)) (hb : smallB l = true) (hb2 : smallB r = true) (hk : ps.length ≤ 50) (hle : l.length ≤ r.length) (hv : onV l.length r.length (rootH (leavesH l)) (rootH (leavesH r)) (bothAll l.length r.length (rootH (leavesH l)) ps) = 0) (hne : ¬ bsOf l = bsOf (r.take l.length)) (hL : Laid w0) (h2 : 4 ≤ w0.heap.size) :
    Calls Tryd.prog 13 #[.agg (sgA (grS a l.length c b r.length e p ps.length q))] w0 fun e w' => e = .returned (.bool true) ∧ Kp [] w0 w' := by
  obtain ⟨hsl, hll⟩ := smallB_is hb
  obtain ⟨hsr, hlr⟩ := smallB_is hb2
  have hp2 : ∀ p ∈ l, Rd w0 p.a p.l.length p.c 1 (bcs p.l) ∧ p.l.length ≤ 1099511627775 := fun p hm => ⟨hp p hm, by have := hsl p hm; omega⟩
  have hq2 : ∀ p ∈ r, Rd w0 p.a p.l.length p.c 1 (bcs p.l) ∧ p.l.length ≤ 1099511627775 := fun p hm => ⟨hq p hm, by have := hsr p hm; omega⟩
  refine calls_st (F := []) (args := [.agg (sgA (grS a l.length c b r.length e p ps.length q))]) Tryd.func13 rfl (n := 93) rfl rfl ?_
  intro ac w HF HS
  refine wp_seq ?_
  refine wp_region_lit ?_
  refine sx_ef HF (ef_boxs HS rfl) rfl rfl ?_; clear HF HS ac; rintro _ w ac ⟨g1, rfl, HS⟩ HF
  refine sx_y HF HS (yl_assign rfl) rfl rfl ?_; clear HF ac; intro ac HF
  refine wpList_nil ?_
  refine then_n ?_
  refine wp_seq ?_
  refine wp_seq ?_
  refine wp_region_lit ?_
  refine sx_y HF HS (fa_st fd93x0 rfl) rfl rfl ?_; clear HF ac; intro ac HF
  refine sx_y HF HS (ld_sc sc61 rfl rfl rfl) rfl rfl ?_; clear HF ac; intro ac HF
  refine sx_call HF Tryd.func56 (by kernel_rfl) (by kernel_rfl) (evs_cons rfl evs_nil) (small10_any l a c w (hr.below HS.kp) (fun p hm => (hp p hm).below HS.kp)) rfl rfl ?_; clear HF ac
  rintro _ w ⟨rfl, k1⟩
  rw [hb]
  refine ⟨_, rfl, fun ac HF => ?_⟩
  replace HS := HS.call k1
  clear k1
  refine sx_y HF HS (yl_not rfl) rfl rfl ?_; clear HF ac; intro ac HF
  refine sx_y HF HS (yl_move rfl) rfl rfl ?_; clear HF ac; intro ac HF
  refine sx_y HF HS (fa_st fd93x1 rfl) rfl rfl ?_; clear HF ac; intro ac HF
  refine sx_y HF HS (ld_sc sc61 rfl rfl rfl) rfl rfl ?_; clear HF ac; intro ac HF
  refine sx_call HF Tryd.func56 (by kernel_rfl) (by kernel_rfl) (evs_cons rfl evs_nil) (small10_any r b e w (hs.below HS.kp) (fun p hm => (hq p hm).below HS.kp)) rfl rfl ?_; clear HF ac
  rintro _ w ⟨rfl, k1⟩
  rw [hb2]
  refine ⟨_, rfl, fun ac HF => ?_⟩
  replace HS := HS.call k1
  clear k1
  refine sx_y HF HS (yl_not rfl) rfl rfl ?_; clear HF ac; intro ac HF
  refine sx_y HF HS (yl_pick (b := false) rfl rfl) rfl rfl ?_; clear HF ac; intro ac HF
  refine sx_y HF HS (yl_move rfl) rfl rfl ?_; clear HF ac; intro ac HF
  refine sx_y HF HS (fa_st fd93x2 rfl) rfl rfl ?_; clear HF ac; intro ac HF
  refine sx_y HF HS (ld_sc sc22 rfl rfl rfl) rfl rfl ?_; clear HF ac; intro ac HF
  refine sx_y HF HS (yl_len_slice Tryd.underlying22 rfl) rfl rfl ?_; clear HF ac; intro ac HF
  refine sx_y HF HS (yl_gtr rfl rfl (decide_eq_false (by omega))) rfl rfl ?_; clear HF ac; intro ac HF
  refine sx_y HF HS (yl_pick (b := false) rfl rfl) rfl rfl ?_; clear HF ac; intro ac HF
  refine wpList_nil ?_
  refine then_n ?_
  refine cx_false HF rfl ?_
  refine wp_skip ?_
  refine then_n ?_
  refine wp_seq ?_
  refine wp_region_lit ?_
  refine sx_y HF HS (ld_all ag93 rfl rfl) rfl rfl ?_; clear HF ac; intro ac HF
  refine sx_call HF Tryd.func63 (by kernel_rfl) (by kernel_rfl) (evs_cons rfl evs_nil) (on_any l r ps a b p c e q w (hr.below HS.kp) (fun p hm => ⟨(hp2 p hm).1.below HS.kp, (hp2 p hm).2⟩) (by omega) (hs.below HS.kp) (fun p hm => ⟨(hq2 p hm).1.below HS.kp, (hq2 p hm).2⟩) (by omega) (hps.below HS.kp) hle hv hne (hL.below HS.kp) (Nat.le_trans h2 HS.kp.size)) rfl rfl ?_; clear HF ac
  rintro _ w ⟨xs, zs, a1, c1, b1, e1, rfl, k1, hrb⟩
  refine ⟨_, rfl, fun ac HF => ?_⟩
  replace HS := HS.joinR2 k1
  clear k1
  refine sx_y HF HS (yl_move rfl) rfl rfl ?_; clear HF ac; intro ac HF
  refine sx_y HF HS (yl_extract rfl rfl) rfl rfl ?_; clear HF ac; intro ac HF
  refine sx_y HF HS (yl_extract rfl rfl) rfl rfl ?_; clear HF ac; intro ac HF
  refine sx_y HF HS (yl_extract rfl rfl) rfl rfl ?_; clear HF ac; intro ac HF
  refine sx_ef HF (ef_alloc HS ze85) rfl rfl ?_; clear HF HS ac; rintro _ w ac ⟨g3, rfl, HS⟩ HF
  refine sx_ef0 HF (ef_stores HS sz85 rfl rfl rfl rfl) rfl ?_; clear HS; rintro _ w HS
  refine sx_y HF HS (yl_assign rfl) rfl rfl ?_; clear HF ac; intro ac HF
  refine sx_y HF HS (yl_assign rfl) rfl rfl ?_; clear HF ac; intro ac HF
  refine wpList_nil ?_
  refine then_n ?_
  refine wp_seq ?_
  refine wp_seq ?_
  refine wp_region_lit ?_
  refine sx_y HF HS (fa_st fd93x0 rfl) rfl rfl ?_; clear HF ac; intro ac HF
  refine sx_y HF HS (ld_sc sc61 rfl rfl rfl) rfl rfl ?_; clear HF ac; intro ac HF
  refine sx_y HF HS (yl_len_slice Tryd.underlying61 rfl) rfl rfl ?_; clear HF ac; intro ac HF
  refine sx_y HF HS (fa_st fd93x1 rfl) rfl rfl ?_; clear HF ac; intro ac HF
  refine sx_y HF HS (ld_sc sc61 rfl rfl rfl) rfl rfl ?_; clear HF ac; intro ac HF
  refine sx_y HF HS (yl_len_slice Tryd.underlying61 rfl) rfl rfl ?_; clear HF ac; intro ac HF
  refine sx_y HF HS (yl_gtr rfl rfl (decide_eq_false (by omega))) rfl rfl ?_; clear HF ac; intro ac HF
  refine wpList_nil ?_
  refine then_n ?_
  refine cx_false HF rfl ?_
  refine wp_skip ?_
  refine then_n ?_
  refine wp_seq ?_
  refine wp_seq ?_
  refine dx_region 18 (by kernel_rfl) HS.drew (fun _ h => h) ?_; clear HS; intro w HS
  have HH := HS
  refine dx_p (i := 0) HF rfl (by kernel_rfl) (by kernel_rfl) (by kernel_rfl) (by decide) (fun _ _ _ h => h) (fun _ => HH) (fa_st fd93x0 rfl) rfl rfl ?_; clear HF ac; intro ac HF
  refine dx_k (i := 1) HF rfl (by kernel_rfl) (by kernel_rfl) (by kernel_rfl) (by kernel_rfl) (by kernel_rfl) (fun _ _ _ h => h) HH (ld_sc sc61 rfl rfl rfl) rfl rfl ?_; clear HF ac; intro ac HF
  refine dx_p (i := 2) HF rfl (by kernel_rfl) (by kernel_rfl) (by kernel_rfl) (by decide) (fun _ _ _ h => h) (fun _ => HH) (yl_len_slice Tryd.underlying61 rfl) rfl rfl ?_; clear HF ac; intro ac HF
  refine dx_p (i := 3) HF rfl (by kernel_rfl) (by kernel_rfl) (by kernel_rfl) (by decide) (fun _ _ _ h => h) (fun _ => HH) (fa_st fd93x1 rfl) rfl rfl ?_; clear HF ac; intro ac HF
  refine dx_k (i := 4) HF rfl (by kernel_rfl) (by kernel_rfl) (by kernel_rfl) (by kernel_rfl) (by kernel_rfl) (fun _ _ _ h => h) HH (ld_sc sc61 rfl rfl rfl) rfl rfl ?_; clear HF ac; intro ac HF
  refine dx_p (i := 5) HF rfl (by kernel_rfl) (by kernel_rfl) (by kernel_rfl) (by decide) (fun _ _ _ h => h) (fun _ => HH) (yl_len_slice Tryd.underlying61 rfl) rfl rfl ?_; clear HF ac; intro ac HF
  refine dx_p (i := 6) HF rfl (by kernel_rfl) (by kernel_rfl) (by kernel_rfl) (by decide) (fun _ _ _ h => h) (fun _ => HH) (fa_st fd93x0 rfl) rfl rfl ?_; clear HF ac; intro ac HF
  refine dx_k (i := 7) HF rfl (by kernel_rfl) (by kernel_rfl) (by kernel_rfl) (by kernel_rfl) (by kernel_rfl) (fun _ _ _ h => h) HH (ld_sc sc61 rfl rfl rfl) rfl rfl ?_; clear HF ac; intro ac HF
  refine dx_p (i := 10) HF rfl (by kernel_rfl) (by kernel_rfl) (by kernel_rfl) (by decide) (fun _ _ _ h => h) (fun _ => HH) (fa_st fd93x1 rfl) rfl rfl ?_; clear HF ac; intro ac HF
  refine dx_k (i := 11) HF rfl (by kernel_rfl) (by kernel_rfl) (by kernel_rfl) (by kernel_rfl) (by kernel_rfl) (fun _ _ _ h => h) HH (ld_sc sc61 rfl rfl rfl) rfl rfl ?_; clear HF ac; intro ac HF
  refine dx_p (i := 14) HF rfl (by kernel_rfl) (by kernel_rfl) (by kernel_rfl) (by decide) (fun _ _ _ h => h) (fun _ => HH) (fa_st fd93x2 rfl) rfl rfl ?_; clear HF ac; intro ac HF
  refine dx_k (i := 15) HF rfl (by kernel_rfl) (by kernel_rfl) (by kernel_rfl) (by kernel_rfl) (by kernel_rfl) (fun _ _ _ h => h) HH (ld_sc sc22 rfl rfl rfl) rfl rfl ?_; clear HF ac; intro ac HF
  refine dx_one (i := 8) (by kernel_rfl) ?_
  refine op_call (i := 8) HF rfl Tryd.func61 (by kernel_rfl) (by kernel_rfl) (evs_cons rfl evs_nil) (hashes10_any l a c w (hr.below HS.kp) (fun p hm => (hp p hm).below HS.kp) (by omega) (hL.below HS.kp) (Nat.le_trans h2 HS.kp.size)) rfl rfl ?_; clear HF ac
  rintro _ w ⟨a7, c7, rfl, k1⟩
  refine ⟨_, rfl, fun ac HF => ?_⟩
  replace HH := HH.call k1.kp
  replace HS := HS.joinR1 k1
  clear k1
  refine ⟨fun _ => HH, ?_⟩
  refine dx_one (i := 9) (by kernel_rfl) ?_
  refine op_call (i := 9) HF rfl Tryd.func60 (by kernel_rfl) (by kernel_rfl) (evs_cons rfl evs_nil) (root_any (leavesH l) a7 c7 w HS.row0 (hL.below HS.kp) (Nat.le_trans h2 HS.kp.size)) rfl rfl ?_; clear HF ac
  rintro _ w ⟨rfl, k1⟩
  refine ⟨_, rfl, fun ac HF => ?_⟩
  replace HH := HH.call k1
  replace HS := HS.call k1
  clear k1
  refine ⟨fun _ => HH, ?_⟩
  refine dx_one (i := 12) (by kernel_rfl) ?_
  refine op_call (i := 12) HF rfl Tryd.func61 (by kernel_rfl) (by kernel_rfl) (evs_cons rfl evs_nil) (hashes10_any r b e w (hs.below HS.kp) (fun p hm => (hq p hm).below HS.kp) (by omega) (hL.below HS.kp) (Nat.le_trans h2 HS.kp.size)) rfl rfl ?_; clear HF ac
  rintro _ w ⟨a8, c8, rfl, k1⟩
  refine ⟨_, rfl, fun ac HF => ?_⟩
  replace HH := HH.call k1.kp
  replace HS := HS.joinR1 k1
  clear k1
  refine ⟨fun _ => HH, ?_⟩
  refine dx_one (i := 13) (by kernel_rfl) ?_
  refine op_call (i := 13) HF rfl Tryd.func60 (by kernel_rfl) (by kernel_rfl) (evs_cons rfl evs_nil) (root_any (leavesH r) a8 c8 w HS.row0 (hL.below HS.kp) (Nat.le_trans h2 HS.kp.size)) rfl rfl ?_; clear HF ac
  rintro _ w ⟨rfl, k1⟩
  refine ⟨_, rfl, fun ac HF => ?_⟩
  replace HH := HH.call k1
  replace HS := HS.call k1
  clear k1
  refine ⟨fun _ => HH, ?_⟩
  refine dx_one (i := 16) (by kernel_rfl) ?_
  refine op_call (i := 16) HF rfl Tryd.func64 (by kernel_rfl) (by kernel_rfl) (evs_cons rfl (evs_cons rfl (evs_cons rfl (evs_cons rfl (evs_cons rfl evs_nil))))) (on_good l.length r.length (rootH (leavesH l)) (rootH (leavesH r)) ps p q w (hps.below HS.kp) hle (by omega) (hL.below HS.kp) (Nat.le_trans h2 HS.kp.size)) rfl rfl ?_; clear HF ac
  rintro _ w ⟨rfl, k1⟩
  rw [hv]
  refine ⟨_, rfl, fun ac HF => ?_⟩
  replace HH := HH.call k1
  replace HS := HS.call k1
  clear k1
  refine ⟨fun _ => HH, ?_⟩
  refine dx_p (i := 17) HF rfl (by kernel_rfl) (by kernel_rfl) (by kernel_rfl) (by decide) (fun _ _ _ h => h) (fun _ => HH) (yl_neq rfl rfl (decide_eq_false (by exact (fun h => h rfl)))) rfl rfl ?_; clear HF ac; intro ac HF
  refine dx_done (by kernel_rfl) ?_
  clear HH
  refine then_n ?_
  refine cx_false HF rfl ?_
  refine wp_skip ?_
  refine then_n ?_
  refine wp_seq ?_
  refine wp_seq ?_
  refine wp_region_lit ?_
  refine sx_y HF HS (yl_move rfl) rfl rfl ?_; clear HF ac; intro ac HF
  refine sx_y HF HS (yl_neq rfl rfl (decide_eq_false (by exact (fun h => h rfl)))) rfl rfl ?_; clear HF ac; intro ac HF
  refine sx_y HF HS (yl_move rfl) rfl rfl ?_; clear HF ac; intro ac HF
  refine sx_y HF HS (yl_move rfl) rfl rfl ?_; clear HF ac; intro ac HF
  refine sx_y HF HS (fa_st fd93x0 rfl) rfl rfl ?_; clear HF ac; intro ac HF
  refine sx_y HF HS (ld_sc sc61 rfl rfl rfl) rfl rfl ?_; clear HF ac; intro ac HF
  refine sx_y HF HS (fa_st fd93x1 rfl) rfl rfl ?_; clear HF ac; intro ac HF
  refine sx_y HF HS (ld_sc sc61 rfl rfl rfl) rfl rfl ?_; clear HF ac; intro ac HF
  refine sx_call HF Tryd.func65 (by kernel_rfl) (by kernel_rfl) (evs_cons rfl (evs_cons rfl evs_nil)) (begins10_any l r a b c e w (hr.below HS.kp) (fun p hm => (hp p hm).below HS.kp) (hs.below HS.kp) (fun p hm => (hq p hm).below HS.kp) hle) rfl rfl ?_; clear HF ac
  rintro _ w ⟨rfl, k1⟩
  rw [decide_eq_false hne]
  refine ⟨_, rfl, fun ac HF => ?_⟩
  replace HS := HS.call k1
  clear k1
  refine sx_y HF HS (yl_not rfl) rfl rfl ?_; clear HF ac; intro ac HF
  refine sx_y HF HS (yl_neB Tryd.underlying4 rfl rfl rfl) rfl rfl ?_; clear HF ac; intro ac HF
  refine sx_y HF HS (yl_pick (b := false) rfl rfl) rfl rfl ?_; clear HF ac; intro ac HF
  refine wpList_nil ?_
  refine then_n ?_
  refine cx_false HF rfl ?_
  refine wp_skip ?_
  refine then_n ?_
  refine wp_seq ?_
  refine wp_region_lit ?_
  refine sx_y HF HS (yl_move rfl) rfl rfl ?_; clear HF ac; intro ac HF
  refine sx_y HF HS (yl_not rfl) rfl rfl ?_; clear HF ac; intro ac HF
  refine sx_y HF HS (yl_move rfl) rfl rfl ?_; clear HF ac; intro ac HF
  refine sx_y HF HS (ld_all ag85 rfl rfl) rfl rfl ?_; clear HF ac; intro ac HF
  refine sx_call HF Tryd.func62 (by kernel_rfl) (by kernel_rfl) (evs_cons rfl evs_nil) (right10_any xs zs a1 b1 c1 e1 w HS.r2.row1 HS.r2.row0 (hL.below HS.kp) (Nat.le_trans h2 HS.kp.size)) rfl rfl ?_; clear HF ac
  rintro _ w ⟨rfl, k1⟩
  rw [hrb]
  refine ⟨_, rfl, fun ac HF => ?_⟩
  replace HS := HS.call k1
  clear k1
  refine sx_y HF HS (yl_pick (b := false) rfl rfl) rfl rfl ?_; clear HF ac; intro ac HF
  refine sx_y HF HS (yl_move rfl) rfl rfl ?_; clear HF ac; intro ac HF
  refine sx_call HF Tryd.func57 (by kernel_rfl) (by kernel_rfl) evs_nil (awake10_any w (hL.below HS.kp) (Nat.le_trans h2 HS.kp.size)) rfl rfl ?_; clear HF ac
  rintro _ w ⟨rfl, k1⟩
  refine ⟨_, rfl, fun ac HF => ?_⟩
  replace HS := HS.call k1
  clear k1
  refine sx_y HF HS (yl_pick (b := true) rfl rfl) rfl rfl ?_; clear HF ac; intro ac HF
  refine sx_y HF HS (yl_assign rfl) rfl rfl ?_; clear HF ac; intro ac HF
  refine wpList_nil ?_
  refine then_n ?_
  refine wp_ret ?_
  exact rt1 rfl HF HS rfl ⟨rfl, HS.kp⟩

theorem onV_or (m n : Nat) (old root : Hsh) (x : Option (Hsh × Hsh)) : onV m n old root x = 22 ∨ onV m n old root x = 0 := by
  cases x with
  | none => exact .inl rfl
  | some y =>
    obtain ⟨f, s⟩ := y
    show (if m = 0 ∧ old ≠ shaH [] then (22 : Int) else if m = 0 ∧ 0 < n then 0 else if f ≠ old ∨ s ≠ root then 22 else 0) = 22 ∨ (if m = 0 ∧ old ≠ shaH [] then (22 : Int) else if m = 0 ∧ 0 < n then 0 else if f ≠ old ∨ s ≠ root then 22 else 0) = 0
    by_cases h1 : m = 0 ∧ old ≠ shaH []
    · rw [if_pos h1]; exact .inl rfl
    · rw [if_neg h1]
      by_cases h2 : m = 0 ∧ 0 < n
      · rw [if_pos h2]; exact .inr rfl
      · rw [if_neg h2]
        by_cases h3 : f ≠ old ∨ s ≠ root
        · rw [if_pos h3]; exact .inl rfl
        · rw [if_neg h3]; exact .inr rfl
theorem walk (l r : List Pt) (ps : List Hsh) (a b p : Option Addr) (c e q : Nat) (w0 : World) (hr : Rd w0 a l.length c 1 (pts l)) (hp : ∀ p ∈ l, Rd w0 p.a p.l.length p.c 1 (bcs p.l)) (hs : Rd w0 b r.length e 1 (pts r)) (hq : ∀ p ∈ r, Rd w0 p.a p.l.length p.c 1 (bcs p.l)) (hps : Rd w0 p ps.length q 32 (hsc ps)) (hL : Laid w0) (h2 : 4 ≤ w0.heap.size) :
    Calls Tryd.prog 13 #[.agg (sgA (grS a l.length c b r.length e p ps.length q))] w0 fun e w' => e = .returned (.bool true) ∧ Kp [] w0 w' := by
  cases hb : smallB l with
  | false => exact walk_a l r ps a b p c e q w0 hr hp hs hq hps hb hL h2
  | true =>
    cases hb2 : smallB r with
    | false => exact walk_b l r ps a b p c e q w0 hr hp hs hq hps hb hb2 hL h2
    | true =>
      by_cases hk : 50 < ps.length
      · exact walk_c l r ps a b p c e q w0 hr hp hs hq hps hb hb2 hk hL h2
      · by_cases h : r.length < l.length
        · exact walk_d l r ps a b p c e q w0 hr hp hs hq hps hb hb2 (by omega) h hL h2
        · rcases onV_or l.length r.length (rootH (leavesH l)) (rootH (leavesH r)) (bothAll l.length r.length (rootH (leavesH l)) ps) with hv | hv
          · exact walk_e l r ps a b p c e q w0 hr hp hs hq hps hb hb2 (by omega) (by omega) hv hL h2
          · by_cases heq : bsOf l = bsOf (r.take l.length)
            · exact walk_f l r ps a b p c e q w0 hr hp hs hq hps hb hb2 (by omega) (by omega) hv heq hL h2
            · exact walk_g l r ps a b p c e q w0 hr hp hs hq hps hb hb2 (by omega) (by omega) hv heq hL h2

end Go.Proofs.YtalnkhgonfcabaaDoor.collideOn
