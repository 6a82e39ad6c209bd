/-
  collide.Lists: of two lists with one root, down to where they differ. (Printed by sx_coll4.py.)
-/
import Derived.Test.YtalnkhgonfcabaaDoorColl2
import Derived.Test.YtalnkhgonfcabaaDoorColl3
import Derived.ChangeKeysEq
namespace Go.Proofs.YtalnkhgonfcabaaDoor
open Go.RowKit

/-! ### Types -/
namespace Coll4
theorem ag85 : AgT Tryd.prog 85 2 := AgT.mk' Tryd.underlying85 rfl (by kernel_rfl)
theorem ag142 : AgT Tryd.prog 142 64 := AgT.mk' Tryd.underlying142 rfl (by kernel_rfl)
theorem sc39 : ScT Tryd.prog 39 := ScT.mk' Tryd.underlying39 rfl (by kernel_rfl)
theorem sz33 : (Tryd.prog.info? 33).map (·.size) = some 32 := by kernel_rfl
theorem sz39 : (Tryd.prog.info? 39).map (·.size) = some 1 := by kernel_rfl
theorem sz85 : (Tryd.prog.info? 85).map (·.size) = some 2 := by kernel_rfl
theorem sz142 : (Tryd.prog.info? 142).map (·.size) = some 64 := by kernel_rfl
theorem ze85 : ZeS Tryd.prog 85 [(1, .slice none 0 0), (1, .slice none 0 0)] := ⟨.agg _, ZeT.mk' (by kernel_rfl), rfl⟩
theorem ze142 : ZeS Tryd.prog 142 [(32, hv zeroH), (32, hv zeroH)] := ⟨.agg _, ZeT.mk' (by kernel_rfl), rfl⟩
end Coll4
open Go.Proofs.YtalnkhgonfcabaaDoor.Coll4

theorem run_part_h {P : Program} (w : World) {e : TypeId} (T : AgT P e 32) (s : List (Nat × Value)) [hw : SgW s] (off : Nat) (h : Hsh) (hv' : sgGet s off 32 = some (hv h)) : (part e (sgA s) off).run P w = .ok (hv h) w := by
  obtain ⟨_, e2, _⟩ := sgGet_spec s off 32 _ hw hv'
  obtain ⟨⟨d, hu, hd⟩, hs⟩ := T
  obtain ⟨i, hi, hz⟩ := Option.map_eq_some_iff.1 hs
  have hagg : (isAgg e).run P w = .ok true w := by
    unfold isAgg
    rw [Sem.run_bind, run_underlying hu w]
    cases d <;> simp_all
  have hc : (sgA s).extract off (off + 32) = hvA h := by
    apply Array.ext'
    rw [Array.toList_extract]
    have e2' : ((sgL s).drop off).take 32 = (hvA h).toList := e2
    rw [← e2']
    simp [sgA, List.extract_eq_take_drop]
  simp [part, hagg, sizeOf, typeInfo, hi, hz, hc]
theorem run_eqH2 (w : World) (p q r s : Hsh) : (Op.equal 142 (.agg (sgA (h2S p q))) (.agg (sgA (h2S r s)))).run Tryd.prog w = .ok (decide (p = r ∧ q = s)) w := by
  have hi : Tryd.prog.info? 33 = some Tryd.t33 := by kernel_rfl
  have hc : Tryd.prog.cellsOf 33 = 32 := by kernel_rfl
  have hag : AgT Tryd.prog 33 32 := AgT.mk' Tryd.underlying33 rfl (by kernel_rfl)
  have h := run_equalIn_array (P := Tryd.prog) (w := w) 9999 (sgA (h2S p q)) (sgA (h2S r s)) Tryd.underlying142 hi
  rw [hc] at h
  have e1 := run_equalIn_hash (P := Tryd.prog) w Tryd.underlying33 Tryd.underlying5 (i := Tryd.t5) (by kernel_rfl) rfl 9997 p r
  have e2 := run_equalIn_hash (P := Tryd.prog) w Tryd.underlying33 Tryd.underlying5 (i := Tryd.t5) (by kernel_rfl) rfl 9997 q s
  have p1 := run_part_h w hag (h2S p q) 0 p rfl
  have p2 := run_part_h w hag (h2S r s) 0 r rfl
  have p3 := run_part_h w hag (h2S p q) 32 q rfl
  have p4 := run_part_h w hag (h2S r s) 32 s rfl
  rw [show 9997 + 2 = 9999 from rfl] at e1 e2
  have hd : Op.maxDepth = 9999 + 1 := rfl
  unfold Op.equal
  rw [hd, h, show List.range 2 = [0, 1] from rfl]
  clear h hd hi hc hag
  simp only [Op.eqItems, Sem.run_bind, Nat.zero_mul, Nat.one_mul]
  generalize Op.equalIn 9999 = E at e1 e2 ⊢
  generalize sgA (h2S p q) = X at *
  generalize sgA (h2S r s) = Y at *
  rw [p1, Result.andThen_ok, p2, Result.andThen_ok, e1, Result.andThen_ok]
  by_cases h1 : p = r
  · rw [decide_eq_true h1]
    simp only [Bool.not_true, Bool.false_eq_true, if_false, Sem.run_bind]
    rw [p3, Result.andThen_ok, p4, Result.andThen_ok, e2, Result.andThen_ok]
    by_cases h2 : q = s
    · rw [decide_eq_true h2, decide_eq_true (And.intro h1 h2)]; rfl
    · rw [decide_eq_false h2, decide_eq_false (fun h => h2 h.2)]; rfl
  · rw [decide_eq_false h1, decide_eq_false (fun h => h1 h.1)]; rfl
theorem yl_neH2 {S : World → Prop} {m : List (Nat × Value)} {x y : Operand} {p q r s : Hsh} {b : Bool} (hx : ev m x = some (.agg (sgA (h2S p q)))) (hy : ev m y = some (.agg (sgA (h2S r s)))) (h : decide (¬(p = r ∧ q = s)) = b) : Yl Tryd.prog S (.binOp .neq 142 x y 142) m (.bool b) :=
  yl_bin hx hy fun w _ => by
    have hg : Tryd.prog.eqGuardType Tryd.prog.depth 142 = false := Tryd.eqGuardType142
    have hr := run_eqH2 w p q r s
    rw [← h, show decide (¬(p = r ∧ q = s)) = !decide (p = r ∧ q = s) by simp]
    simp [eqGuard, binOp, hg, hr]
theorem Rd.takeP {w : World} {a : Option Addr} {c : Nat} {l : List Pt} (h : Rd w a l.length c 1 (pts l)) (m : Nat) (hm : m ≤ l.length) : Rd w a (l.take m).length c 1 (pts (l.take m)) := by
  have := h.take m c hm (by have := h.le; omega) (Nat.le_refl _)
  rw [Nat.mul_one] at this
  rw [show (l.take m).length = m by rw [List.length_take]; omega, show pts (l.take m) = (pts l).take m by simp [pts]]
  exact this
theorem Rd.dropP {w : World} {a : Option Addr} {c : Nat} {l : List Pt} (h : Rd w a l.length c 1 (pts l)) (m : Nat) (hm : m ≤ l.length) : Rd w (cutA a m c 1) (l.drop m).length (c - m) 1 (pts (l.drop m)) := by
  have := h.drop m hm
  rw [Nat.mul_one] at this
  rw [List.length_drop, show pts (l.drop m) = (pts l).drop m by simp [pts]]
  unfold cutA; rw [Nat.mul_one]; exact this
theorem leavesH_take (l : List Pt) (k : Nat) : leavesH (l.take k) = (leavesH l).take k := by simp [leavesH]
theorem leavesH_drop (l : List Pt) (k : Nat) : leavesH (l.drop k) = (leavesH l).drop k := by simp [leavesH]
theorem bsOf_split (l r : List Pt) (k : Nat) : bsOf l = bsOf r ↔ bsOf (l.take k) = bsOf (r.take k) ∧ bsOf (l.drop k) = bsOf (r.drop k) := by
  rw [bsOf_take, bsOf_take, bsOf_drop, bsOf_drop]
  constructor
  · intro h; rw [h]; exact ⟨rfl, rfl⟩
  · rintro ⟨h1, h2⟩
    rw [← List.take_append_drop k (bsOf l), ← List.take_append_drop k (bsOf r), h1, h2]
theorem halvesP_any (Y : List Pt) (k : Nat) (hk : sp Y.length = k) (a : Option Addr) (c : Nat) (w0 : World) (hr : Rd w0 a (leavesH Y).length c 32 (hsc (leavesH Y))) (hl : 2 ≤ Y.length) (hL : Laid w0) (h2 : 4 ≤ w0.heap.size) :
    Calls Tryd.prog 102 #[.slice a (leavesH Y).length c] w0 fun e w' => e = .returned (.agg (sgA (h2S (rootH (leavesH (Y.take k))) (rootH (leavesH (Y.drop k)))))) ∧ Kp [] w0 w' := by
  have h := halves_any (leavesH Y) a c w0 hr (by rw [leavesH_length]; exact hl) hL h2
  rw [leavesH_take, leavesH_drop]
  rw [leavesH_length, hk] at h
  rw [leavesH_length]
  exact h
/-- When two lists are told to differ. -/
def foundB (l r : List Pt) : Bool := decide (l.length = r.length ∧ rootH (leavesH l) = rootH (leavesH r) ∧ ¬ bsOf l = bsOf r)
theorem node_inj {p q r s : Hsh} (h : 1 :: (p.1 ++ q.1) = 1 :: (r.1 ++ s.1)) : p = r ∧ q = s := by
  simp only [List.cons.injEq, true_and] at h
  obtain ⟨h1, h2⟩ := List.append_inj h (by rw [p.2, r.2])
  exact ⟨Subtype.ext h1, Subtype.ext h2⟩
theorem right_nodes {p q r s : Hsh} (hne : ¬(p = r ∧ q = s)) (h : nodeH p q = nodeH r s) : rightB (1 :: (p.1 ++ q.1)) (1 :: (r.1 ++ s.1)) = true := by
  rw [rightB_ne (fun hh => hne (node_inj hh))]
  exact decide_eq_true h
theorem right_leaves {xs ys : List UInt8} (hne : ¬ xs = ys) (h : leafH xs = leafH ys) : rightB (0 :: xs) (0 :: ys) = true := by
  rw [rightB_ne (fun hh => hne (by simpa using hh))]
  exact decide_eq_true h

/-- What Lists tells: a collision, and whether there is one. -/
def ListsP (F : Bool) (w : World) (e : Ending) (w' : World) : Prop := ∃ (xs ys : List UInt8) (a1 : Option Addr) (c1 : Nat) (b1 : Option Addr) (e1 : Nat), e = .returned (.tuple #[.agg (sgA (coS a1 xs.length c1 b1 ys.length e1)), .bool F]) ∧ St [] w [] [⟨5, 1, b1, ys.length, e1, bcs ys⟩, ⟨5, 1, a1, xs.length, c1, bcs xs⟩] w' ∧ (F = true → rightB xs ys = true)

set_option maxRecDepth 100000 in
set_option maxHeartbeats 1000000 in
theorem lists_any (l r : List Pt) (a b : Option Addr) (c e : Nat) (w0 : World) (hr : Rd w0 a l.length c 1 (pts l)) (hp : ∀ p ∈ l, Rd w0 p.a p.l.length p.c 1 (bcs p.l) ∧ p.l.length ≤ 1099511627775) (hll : l.length ≤ 100000) (hs : Rd w0 b r.length e 1 (pts r)) (hq : ∀ p ∈ r, Rd w0 p.a p.l.length p.c 1 (bcs p.l) ∧ p.l.length ≤ 1099511627775) (hlr : r.length ≤ 100000) (hL : Laid w0) (h2 : 4 ≤ w0.heap.size) :
    Calls Tryd.prog 139 #[.slice a l.length c, .slice b r.length e] w0 (ListsP (foundB l r) w0) := by
  refine calls_st (F := []) (args := [.slice a l.length c, .slice b r.length e]) Tryd.func139 rfl (n := 96) rfl rfl ?_
  intro ac w HF HS
  refine wp_seq ?_
  refine wp_region_lit ?_
  refine sx_ef HF (ef_alloc HS ze85) rfl rfl ?_; clear HF HS ac; rintro _ w ac ⟨g4, rfl, HS⟩ HF
  refine sx_y HF HS (yl_assign rfl) rfl rfl ?_; clear HF ac; intro ac HF
  refine wpList_nil ?_
  refine then_n ?_
  refine wp_seq ?_
  refine wp_region_lit ?_
  refine sx_y HF HS (yl_move rfl) rfl rfl ?_; clear HF ac; intro ac HF
  refine sx_call HF Tryd.func99 (by kernel_rfl) (by kernel_rfl) (evs_cons rfl evs_nil) (leaves_any l a c w (hr.below HS.kp) (fun p hm => (hp p hm).1.below HS.kp) (by omega) (hL.below HS.kp) (Nat.le_trans h2 HS.kp.size)) rfl rfl ?_; clear HF ac
  rintro _ w ⟨_, rfl, ax0, cx0, rfl, o7, f7, k7⟩
  refine ⟨_, rfl, fun ac HF => ?_⟩
  replace HS := HS.addRow k7 o7 f7
  clear o7 f7 k7
  refine sx_y HF HS (yl_move rfl) rfl rfl ?_; clear HF ac; intro ac HF
  refine sx_call HF Tryd.func99 (by kernel_rfl) (by kernel_rfl) (evs_cons rfl evs_nil) (leaves_any r b e w (hs.below HS.kp) (fun p hm => (hq p hm).1.below HS.kp) (by omega) (hL.below HS.kp) (Nat.le_trans h2 HS.kp.size)) rfl rfl ?_; clear HF ac
  rintro _ w ⟨_, rfl, ay0, cy0, rfl, o7, f7, k7⟩
  refine ⟨_, rfl, fun ac HF => ?_⟩
  replace HS := HS.addRow k7 o7 f7
  clear o7 f7 k7
  refine sx_y HF HS (yl_assign rfl) rfl rfl ?_; clear HF ac; intro ac HF
  refine sx_y HF HS (yl_assign rfl) rfl rfl ?_; clear HF ac; intro ac HF
  refine wpList_nil ?_
  refine then_n ?_
  refine wp_seq ?_
  refine wp_seq ?_
  refine wp_region_lit ?_
  refine sx_y HF HS (yl_move rfl) rfl rfl ?_; clear HF ac; intro ac HF
  refine sx_y HF HS (yl_len_slice Tryd.underlying61 rfl) rfl rfl ?_; clear HF ac; intro ac HF
  refine sx_y HF HS (yl_move rfl) rfl rfl ?_; clear HF ac; intro ac HF
  refine sx_y HF HS (yl_len_slice Tryd.underlying61 rfl) rfl rfl ?_; clear HF ac; intro ac HF
  refine sx_dec HF HS (yl_neq rfl rfl rfl) rfl rfl ?_ ?_ <;> clear HF ac <;> intro h2x4 ac HF
  · refine sx_y HF HS (yl_move rfl) rfl rfl ?_; clear HF ac; intro ac HF
    refine sx_off HF rfl rfl ?_; clear HF ac; intro ac HF
    refine sx_off HF rfl rfl ?_; clear HF ac; intro ac HF
    refine sx_off HF rfl rfl ?_; clear HF ac; intro ac HF
    refine sx_off HF rfl rfl ?_; clear HF ac; intro ac HF
    refine sx_off HF rfl rfl ?_; clear HF ac; intro ac HF
    refine sx_y HF HS (yl_pick (b := true) rfl rfl) rfl rfl ?_; clear HF ac; intro ac HF
    refine wpList_nil ?_
    refine then_n ?_
    refine cx_true HF rfl ?_
    refine wp_seq ?_
    refine wp_region_lit ?_
    refine sx_y HF HS (bd_st (parts := #[]) Tryd.underlying85 (by kernel_rfl) ze85 evs_nil (pl := [(0, 1), (1, 1)]) (by kernel_rfl) (szs := []) rfl (inferInstance : SgW []) rfl) rfl rfl ?_; clear HF ac; intro ac HF
    refine sx_ef0 HF (ef_stores HS sz85 rfl rfl rfl rfl) rfl ?_; clear HS; rintro _ w HS
    refine sx_y HF HS (yl_assign rfl) rfl rfl ?_; clear HF ac; intro ac HF
    refine wpList_nil ?_
    refine then_n ?_
    refine wp_ret ?_
    refine then_r ?_
    exact rt2 rfl HF HS ⟨⟨_, rfl⟩, ld_all ag85 rfl rfl⟩ rfl ⟨[], [], none, 0, none, 0, by rw [show foundB l r = false from decide_eq_false (fun h => h2x4 (by rw [h.1]))]; rfl, (HS.sub (List.nil_sublist _) (List.nil_sublist _)).nilRow 5 1 |>.nilRow 5 1, by rw [show foundB l r = false from decide_eq_false (fun h => h2x4 (by rw [h.1]))]; intro h; cases h⟩
  · have hl0 : l.length = r.length := by omega
    refine sx_y HF HS (yl_move rfl) rfl rfl ?_; clear HF ac; intro ac HF
    refine sx_y HF HS (yl_move rfl) rfl rfl ?_; clear HF ac; intro ac HF
    refine sx_call HF Tryd.func60 (by kernel_rfl) (by kernel_rfl) (evs_cons rfl evs_nil) (root_any (leavesH l) ax0 cx0 w HS.row1 (hL.below HS.kp) (Nat.le_trans h2 HS.kp.size)) rfl rfl ?_; clear HF ac
    rintro _ w ⟨rfl, k1⟩
    refine ⟨_, rfl, fun ac HF => ?_⟩
    replace HS := HS.call k1
    clear k1
    refine sx_y HF HS (yl_move rfl) rfl rfl ?_; clear HF ac; intro ac HF
    refine sx_call HF Tryd.func60 (by kernel_rfl) (by kernel_rfl) (evs_cons rfl evs_nil) (root_any (leavesH r) ay0 cy0 w HS.row0 (hL.below HS.kp) (Nat.le_trans h2 HS.kp.size)) rfl rfl ?_; clear HF ac
    rintro _ w ⟨rfl, k1⟩
    refine ⟨_, rfl, fun ac HF => ?_⟩
    replace HS := HS.call k1
    clear k1
    refine sx_dec HF HS (Tryd.yl_neH rfl rfl rfl) rfl rfl ?_ ?_ <;> clear HF ac <;> intro h2x10 ac HF
    · refine sx_y HF HS (yl_pick (b := false) rfl rfl) rfl rfl ?_; clear HF ac; intro ac HF
      refine wpList_nil ?_
      refine then_n ?_
      refine cx_true HF rfl ?_
      refine wp_seq ?_
      refine wp_region_lit ?_
      refine sx_y HF HS (bd_st (parts := #[]) Tryd.underlying85 (by kernel_rfl) ze85 evs_nil (pl := [(0, 1), (1, 1)]) (by kernel_rfl) (szs := []) rfl (inferInstance : SgW []) rfl) rfl rfl ?_; clear HF ac; intro ac HF
      refine sx_ef0 HF (ef_stores HS sz85 rfl rfl rfl rfl) rfl ?_; clear HS; rintro _ w HS
      refine sx_y HF HS (yl_assign rfl) rfl rfl ?_; clear HF ac; intro ac HF
      refine wpList_nil ?_
      refine then_n ?_
      refine wp_ret ?_
      refine then_r ?_
      exact rt2 rfl HF HS ⟨⟨_, rfl⟩, ld_all ag85 rfl rfl⟩ rfl ⟨[], [], none, 0, none, 0, by rw [show foundB l r = false from decide_eq_false (fun h => h2x10 h.2.1)]; rfl, (HS.sub (List.nil_sublist _) (List.nil_sublist _)).nilRow 5 1 |>.nilRow 5 1, by rw [show foundB l r = false from decide_eq_false (fun h => h2x10 h.2.1)]; intro h; cases h⟩
    · have hrt0 : rootH (leavesH l) = rootH (leavesH r) := Decidable.not_not.1 h2x10
      refine sx_y HF HS (yl_pick (b := false) rfl rfl) rfl rfl ?_; clear HF ac; intro ac HF
      refine wpList_nil ?_
      refine then_n ?_
      refine cx_false HF rfl ?_
      refine wp_skip ?_
      refine then_n ?_
      refine wp_seq ?_
      refine wp_block ?_
      replace HF := HF.sub (m' := [(4, _), (0, _), (1, _), (6, _), (7, _)]) (by repeat (first | exact ag_nil | refine ag_cons rfl ?_))
      refine cx_loop (m := [(4, _)]) (HF.sub (by repeat (first | exact ag_nil | refine ag_cons rfl ?_))) (fun m d ac w => ∃ (X Y : List Pt) (a1 : Option Addr) (c1 : Nat) (b1 : Option Addr) (e1 : Nat) (ax : Option Addr) (cx : Nat) (ay : Option Addr) (cy : Nat), X.length = Y.length ∧ rootH (leavesH X) = rootH (leavesH Y) ∧ (bsOf l = bsOf r ↔ bsOf X = bsOf Y) ∧ X.length ≤ 100000 ∧ Rd w0 a1 X.length c1 1 (pts X) ∧ (∀ p ∈ X, p ∈ l) ∧ Rd w0 b1 Y.length e1 1 (pts Y) ∧ (∀ p ∈ Y, p ∈ r) ∧ (∀ w, Rd w ax0 (leavesH l).length cx0 32 (hsc (leavesH l)) → Rd w ax (leavesH X).length cx 32 (hsc (leavesH X))) ∧ (∀ w, Rd w ay0 (leavesH r).length cy0 32 (hsc (leavesH r)) → Rd w ay (leavesH Y).length cy 32 (hsc (leavesH Y))) ∧ d = X.length ∧ Fr ([(0, .slice a1 X.length c1), (1, .slice b1 Y.length e1), (6, .slice ax (leavesH X).length cx), (7, .slice ay (leavesH Y).length cy)] ++ m) 96 ac ∧ St [] w0 [⟨g4, sgA [(1, .slice none 0 0), (1, .slice none 0 0)], 85⟩] [⟨33, 32, ay0, (leavesH r).length, cy0, hsc (leavesH r)⟩, ⟨33, 32, ax0, (leavesH l).length, cx0, hsc (leavesH l)⟩] w) ?_ ?_
      · exact ⟨_, l, r, a, c, b, e, ax0, cx0, ay0, cy0, hl0, hrt0, Iff.rfl, by omega, hr, fun p h => h, hs, fun p h => h, fun w h => h, fun w h => h, rfl, HF.sub (by repeat (first | exact ag_nil | refine ag_cons rfl ?_)), HS⟩
      · clear HF HS ac w
        rintro d ac w ⟨X, Y, a1, c1, b1, e1, ax, cx, ay, cy, hlen, hrt, hiff, hbnd, hX, hXl, hY, hYr, hx, hy, rfl, HF, HS⟩
        refine wp_seq ?_
        refine wp_seq ?_
        refine wp_region_lit ?_
        refine sx_y HF HS (yl_move rfl) rfl rfl ?_; clear HF ac; intro ac HF
        refine sx_y HF HS (yl_len_slice Tryd.underlying61 rfl) rfl rfl ?_; clear HF ac; intro ac HF
        refine sx_dec HF HS (yl_gtr rfl rfl rfl) rfl rfl ?_ ?_ <;> clear HF ac <;> intro h4x2 ac HF
        · have hx2 : 2 ≤ X.length := by omega
          obtain ⟨_, _, hs1, hs2, hs3⟩ := sp_spec X.length hx2 (by omega)
          have hll := leavesH_length X
          have hlr := leavesH_length Y
          have hlimx := hX.lim
          have hlimy := hY.lim
          refine sx_y HF HS (yl_move rfl) rfl rfl ?_; clear HF ac; intro ac HF
          refine sx_y HF HS (yl_move rfl) rfl rfl ?_; clear HF ac; intro ac HF
          refine sx_y HF HS (yl_move rfl) rfl rfl ?_; clear HF ac; intro ac HF
          refine sx_call HF Tryd.func106 (by kernel_rfl) (by kernel_rfl) (evs_cons rfl (evs_cons rfl evs_nil)) (equal_any X a1 c1 Y b1 e1 w (hX.below HS.kp) (fun p hm => (hp p (hXl p hm)).1.below HS.kp) (hY.below HS.kp) (fun p hm => (hq p (hYr p hm)).1.below HS.kp)) rfl rfl ?_; clear HF ac
          rintro _ w ⟨rfl, k1⟩
          refine ⟨_, rfl, fun ac HF => ?_⟩
          replace HS := HS.call k1
          clear k1
          refine sx_y HF HS (yl_not rfl) rfl rfl ?_; clear HF ac; intro ac HF
          refine sx_y HF HS (yl_pick (b := true) rfl rfl) rfl rfl ?_; clear HF ac; intro ac HF
          refine wpList_nil ?_
          refine then_n ?_
          refine cx_split HF rfl ?_ ?_ <;> intro hc4
          · have hneq : ¬ bsOf X = bsOf Y := by simpa using hc4
            refine wp_skip ?_
            refine then_n ?_
            refine wp_block ?_
            refine wp_seq ?_
            refine wp_region_lit ?_
            refine sx_y HF HS (yl_move rfl) rfl rfl ?_; clear HF ac; intro ac HF
            refine sx_y HF HS (yl_len_slice Tryd.underlying61 rfl) rfl rfl ?_; clear HF ac; intro ac HF
            refine sx_call HF Tryd.func101 (by kernel_rfl) (by kernel_rfl) (evs_cons rfl evs_nil) (split_any X.length w hx2 (by omega)) rfl rfl ?_; clear HF ac
            rintro _ w ⟨rfl, rfl⟩
            refine ⟨_, rfl, fun ac HF => ?_⟩
            refine sx_y HF HS (yl_assign rfl) rfl rfl ?_; clear HF ac; intro ac HF
            refine wpList_nil ?_
            refine then_n ?_
            refine wp_seq ?_
            refine wp_seq ?_
            refine wp_region_lit ?_
            refine sx_y HF HS (yl_move rfl) rfl rfl ?_; clear HF ac; intro ac HF
            refine sx_call HF Tryd.func102 (by kernel_rfl) (by kernel_rfl) (evs_cons rfl evs_nil) (halvesP_any X _ rfl ax cx w (hx w HS.row1) hx2 (hL.below HS.kp) (Nat.le_trans h2 HS.kp.size)) rfl rfl ?_; clear HF ac
            rintro _ w ⟨rfl, k1⟩
            refine ⟨_, rfl, fun ac HF => ?_⟩
            replace HS := HS.call k1
            clear k1
            refine sx_y HF HS (yl_move rfl) rfl rfl ?_; clear HF ac; intro ac HF
            refine sx_call HF Tryd.func102 (by kernel_rfl) (by kernel_rfl) (evs_cons rfl evs_nil) (halvesP_any Y (sp X.length) (by rw [hlen]) ay cy w (hy w HS.row0) (by omega) (hL.below HS.kp) (Nat.le_trans h2 HS.kp.size)) rfl rfl ?_; clear HF ac
            rintro _ w ⟨rfl, k1⟩
            refine ⟨_, rfl, fun ac HF => ?_⟩
            replace HS := HS.call k1
            clear k1
            refine sx_ef HF (ef_alloc HS ze142) rfl rfl ?_; clear HF HS ac; rintro _ w ac ⟨g9, rfl, HS⟩ HF
            refine sx_ef HF (ef_alloc HS ze142) rfl rfl ?_; clear HF HS ac; rintro _ w ac ⟨g10, rfl, HS⟩ HF
            refine sx_ef0 HF (ef_stores HS sz142 rfl rfl rfl rfl) rfl ?_; clear HS; rintro _ w HS
            refine sx_ef0 HF (ef_stores HS sz142 rfl rfl rfl rfl) rfl ?_; clear HS; rintro _ w HS
            refine wpList_nil ?_
            refine then_n ?_
            refine wp_seq ?_
            refine wp_region_lit ?_
            refine sx_y HF HS (ld_all ag142 rfl rfl) rfl rfl ?_; clear HF ac; intro ac HF
            refine sx_y HF HS (ld_all ag142 rfl rfl) rfl rfl ?_; clear HF ac; intro ac HF
            have hsplx := rootH_split (leavesH X) (by omega) (by omega)
            have hsply := rootH_split (leavesH Y) (by omega) (by omega)
            rw [hll, ← leavesH_take, ← leavesH_drop] at hsplx
            rw [hlr, ← hlen, ← leavesH_take, ← leavesH_drop] at hsply
            refine sx_dec HF HS (yl_neH2 rfl rfl rfl) rfl rfl ?_ ?_ <;> clear HF ac <;> intro h7x2 ac HF
            · have hrb := right_nodes h7x2 (hsplx.symm.trans (hrt.trans hsply))
              have hfd : foundB l r = true := decide_eq_true ⟨hl0, hrt0, fun h => hneq (hiff.1 h)⟩
              refine wpList_nil ?_
              refine then_n ?_
              refine cx_true HF rfl ?_
              refine wp_seq ?_
              refine wp_region_lit ?_
              refine sx_y HF HS (ld_all ag142 rfl rfl) rfl rfl ?_; clear HF ac; intro ac HF
              refine sx_y HF HS (ld_all ag142 rfl rfl) rfl rfl ?_; clear HF ac; intro ac HF
              refine sx_call HF Tryd.func104 (by kernel_rfl) (by kernel_rfl) (evs_cons rfl (evs_cons rfl evs_nil)) (nodes_any _ _ _ _ w (hL.below HS.kp) (Nat.le_trans h2 HS.kp.size)) rfl rfl ?_; clear HF ac
              rintro _ w ⟨a12, c12, a18, c18, rfl, k1⟩
              rw [hrb]
              refine ⟨_, rfl, fun ac HF => ?_⟩
              replace HS := HS.joinR2 k1
              clear k1
              refine sx_y HF HS (yl_extract rfl rfl) rfl rfl ?_; clear HF ac; intro ac HF
              refine sx_y HF HS (yl_extract rfl rfl) rfl rfl ?_; clear HF ac; intro ac HF
              refine sx_ef0 HF (ef_stores HS sz85 rfl rfl rfl rfl) rfl ?_; clear HS; rintro _ w HS
              refine sx_y HF HS (yl_assign rfl) rfl rfl ?_; clear HF ac; intro ac HF
              refine wpList_nil ?_
              refine then_n ?_
              refine wp_ret ?_
              refine then_r ?_
              refine blk_r ?_
              refine then_r ?_
              refine blk_r ?_
              refine then_r ?_
              exact rt2 rfl HF HS ⟨⟨_, rfl⟩, ld_all ag85 rfl rfl⟩ rfl ⟨_, _, _, _, _, _, by rw [hfd], HS.sub (List.nil_sublist _) (List.Sublist.cons_cons _ (List.Sublist.cons_cons _ (List.nil_sublist _))), fun _ => hrb⟩
            · obtain ⟨hr0, hr1⟩ := Decidable.not_not.1 h7x2
              refine wpList_nil ?_
              refine then_n ?_
              refine cx_false HF rfl ?_
              refine wp_skip ?_
              refine then_n ?_
              refine wp_seq ?_
              refine dx_region 7 (by kernel_rfl) HS.drew (fun _ h => h) ?_; clear HS; intro w HS
              have HH := HS
              refine dx_p (i := 0) HF rfl (by kernel_rfl) (by kernel_rfl) (by kernel_rfl) (by decide) (fun _ _ _ h => h) (fun _ => HH) (yl_move rfl) rfl rfl ?_; clear HF ac; intro ac HF
              refine dx_p (i := 1) HF rfl (by kernel_rfl) (by kernel_rfl) (by kernel_rfl) (by decide) (fun _ _ _ h => h) (fun _ => HH) (yl_move rfl) rfl rfl ?_; clear HF ac; intro ac HF
              refine dx_p (i := 2) HF rfl (by kernel_rfl) (by kernel_rfl) (by kernel_rfl) (by decide) (fun _ _ _ h => h) (fun _ => HH) (sl_hi (r := (X.take (sp X.length)).length) Tryd.underlying61 sz39 rfl rfl (by omega) (by rw [List.length_take]; omega)) rfl rfl ?_; clear HF ac; intro ac HF
              refine dx_p (i := 3) HF rfl (by kernel_rfl) (by kernel_rfl) (by kernel_rfl) (by decide) (fun _ _ _ h => h) (fun _ => HH) (yl_move rfl) rfl rfl ?_; clear HF ac; intro ac HF
              refine dx_p (i := 4) HF rfl (by kernel_rfl) (by kernel_rfl) (by kernel_rfl) (by decide) (fun _ _ _ h => h) (fun _ => HH) (yl_move rfl) rfl rfl ?_; clear HF ac; intro ac HF
              refine dx_p (i := 5) HF rfl (by kernel_rfl) (by kernel_rfl) (by kernel_rfl) (by decide) (fun _ _ _ h => h) (fun _ => HH) (sl_hi (r := (Y.take (sp X.length)).length) Tryd.underlying61 sz39 rfl rfl (by omega) (by rw [List.length_take]; omega)) rfl rfl ?_; clear HF ac; intro ac HF
              refine dx_one (i := 6) (by kernel_rfl) ?_
              refine op_call (i := 6) HF rfl Tryd.func106 (by kernel_rfl) (by kernel_rfl) (evs_cons rfl (evs_cons rfl evs_nil)) (equal_any (X.take (sp X.length)) a1 c1 (Y.take (sp X.length)) b1 e1 w ((hX.takeP _ (by omega)).below HS.kp) (fun p hm => (hp p (hXl p (List.mem_of_mem_take hm))).1.below HS.kp) ((hY.takeP _ (by omega)).below HS.kp) (fun p hm => (hq p (hYr p (List.mem_of_mem_take hm))).1.below HS.kp)) rfl rfl ?_; clear HF ac
              rintro _ w ⟨rfl, k1⟩
              refine ⟨_, rfl, fun ac HF => ?_⟩
              replace HH := HH.call k1
              replace HS := HS.call k1
              clear k1
              refine ⟨fun _ => HH, ?_⟩
              refine dx_done (by kernel_rfl) ?_
              clear HH
              refine then_n ?_
              refine cx_split HF rfl ?_ ?_ <;> intro hc9
              · replace hc9 : bsOf (X.take (sp X.length)) = bsOf (Y.take (sp X.length)) := of_decide_eq_true hc9
                refine dx_region 16 (by kernel_rfl) HS.drew (fun _ h => h) ?_; clear HS; intro w HS
                have HH := HS
                have hlx2 := (hx w HS.row1).lim
                have hly2 := (hy w HS.row0).lim
                refine dx_p (i := 0) HF rfl (by kernel_rfl) (by kernel_rfl) (by kernel_rfl) (by decide) (fun _ _ _ h => h) (fun _ => HH) (yl_move rfl) rfl rfl ?_; clear HF ac; intro ac HF
                refine dx_p (i := 1) HF rfl (by kernel_rfl) (by kernel_rfl) (by kernel_rfl) (by decide) (fun _ _ _ h => h) (fun _ => HH) (yl_move rfl) rfl rfl ?_; clear HF ac; intro ac HF
                refine dx_p (i := 2) HF rfl (by kernel_rfl) (by kernel_rfl) (by kernel_rfl) (by decide) (fun _ _ _ h => h) (fun _ => HH) (sl_lo (r := (X.drop (sp X.length)).length) Tryd.underlying61 sz39 rfl rfl (by omega) (by rw [List.length_drop])) rfl rfl ?_; clear HF ac; intro ac HF
                refine dx_p (i := 3) HF rfl (by kernel_rfl) (by kernel_rfl) (by kernel_rfl) (by decide) (fun _ _ _ h => h) (fun _ => HH) (yl_move rfl) rfl rfl ?_; clear HF ac; intro ac HF
                refine dx_p (i := 4) HF rfl (by kernel_rfl) (by kernel_rfl) (by kernel_rfl) (by decide) (fun _ _ _ h => h) (fun _ => HH) (yl_move rfl) rfl rfl ?_; clear HF ac; intro ac HF
                refine dx_p (i := 5) HF rfl (by kernel_rfl) (by kernel_rfl) (by kernel_rfl) (by decide) (fun _ _ _ h => h) (fun _ => HH) (sl_lo (r := (Y.drop (sp X.length)).length) Tryd.underlying61 sz39 rfl rfl (by omega) (by rw [List.length_drop])) rfl rfl ?_; clear HF ac; intro ac HF
                refine dx_p (i := 6) HF rfl (by kernel_rfl) (by kernel_rfl) (by kernel_rfl) (by decide) (fun _ _ _ h => h) (fun _ => HH) (yl_move rfl) rfl rfl ?_; clear HF ac; intro ac HF
                refine dx_p (i := 7) HF rfl (by kernel_rfl) (by kernel_rfl) (by kernel_rfl) (by decide) (fun _ _ _ h => h) (fun _ => HH) (yl_move rfl) rfl rfl ?_; clear HF ac; intro ac HF
                refine dx_p (i := 8) HF rfl (by kernel_rfl) (by kernel_rfl) (by kernel_rfl) (by decide) (fun _ _ _ h => h) (fun _ => HH) (sl_lo (r := (leavesH (X.drop (sp X.length))).length) Tryd.underlying22 sz33 rfl rfl (by omega) (by have h1 := leavesH_length (X.drop (sp X.length)); have h2 := leavesH_length X; have h3 := List.length_drop (i := (sp X.length)) (l := X); omega)) rfl rfl ?_; clear HF ac; intro ac HF
                refine dx_p (i := 9) HF rfl (by kernel_rfl) (by kernel_rfl) (by kernel_rfl) (by decide) (fun _ _ _ h => h) (fun _ => HH) (yl_move rfl) rfl rfl ?_; clear HF ac; intro ac HF
                refine dx_p (i := 10) HF rfl (by kernel_rfl) (by kernel_rfl) (by kernel_rfl) (by decide) (fun _ _ _ h => h) (fun _ => HH) (yl_move rfl) rfl rfl ?_; clear HF ac; intro ac HF
                refine dx_p (i := 11) HF rfl (by kernel_rfl) (by kernel_rfl) (by kernel_rfl) (by decide) (fun _ _ _ h => h) (fun _ => HH) (sl_lo (r := (leavesH (Y.drop (sp X.length))).length) Tryd.underlying22 sz33 rfl rfl (by omega) (by have h1 := leavesH_length (Y.drop (sp X.length)); have h2 := leavesH_length Y; have h3 := List.length_drop (i := (sp X.length)) (l := Y); omega)) rfl rfl ?_; clear HF ac; intro ac HF
                refine dx_p (i := 12) HF rfl (by kernel_rfl) (by kernel_rfl) (by kernel_rfl) (by decide) (fun _ _ _ h => h) (fun _ => HH) (yl_assign rfl) rfl rfl ?_; clear HF ac; intro ac HF
                refine dx_p (i := 13) HF rfl (by kernel_rfl) (by kernel_rfl) (by kernel_rfl) (by decide) (fun _ _ _ h => h) (fun _ => HH) (yl_assign rfl) rfl rfl ?_; clear HF ac; intro ac HF
                refine dx_p (i := 14) HF rfl (by kernel_rfl) (by kernel_rfl) (by kernel_rfl) (by decide) (fun _ _ _ h => h) (fun _ => HH) (yl_assign rfl) rfl rfl ?_; clear HF ac; intro ac HF
                refine dx_p (i := 15) HF rfl (by kernel_rfl) (by kernel_rfl) (by kernel_rfl) (by decide) (fun _ _ _ h => h) (fun _ => HH) (yl_assign rfl) rfl rfl ?_; clear HF ac; intro ac HF
                refine dx_done (by kernel_rfl) ?_
                clear HH
                refine blk_n ?_
                refine then_n ?_
                refine ⟨_, ?_, X.drop (sp X.length), Y.drop (sp X.length), cutA a1 (sp X.length) c1 1, c1 - (sp X.length), cutA b1 (sp X.length) e1 1, e1 - (sp X.length), cutA ax (sp X.length) cx 32, cx - (sp X.length), cutA ay (sp X.length) cy 32, cy - (sp X.length), by rw [List.length_drop, List.length_drop, hlen], hr1, ?_, by rw [List.length_drop]; omega, hX.dropP (sp X.length) (by omega), fun p h => hXl p (List.mem_of_mem_drop h), hY.dropP (sp X.length) (by omega), fun p h => hYr p (List.mem_of_mem_drop h), ?_, ?_, rfl, HF.sub (by repeat (first | exact ag_nil | refine ag_cons rfl ?_)), HS.d2⟩
                · rw [List.length_drop]; omega
                · rw [hiff, bsOf_split X Y (sp X.length)]; exact ⟨fun h => h.2, fun h => ⟨hc9, h⟩⟩
                · intro w h; rw [leavesH_drop]; exact (hx w h).dropH (sp X.length) (by rw [leavesH_length]; omega)
                · intro w h; rw [leavesH_drop]; exact (hy w h).dropH (sp X.length) (by rw [leavesH_length]; omega)
              · replace hc9 : ¬ bsOf (X.take (sp X.length)) = bsOf (Y.take (sp X.length)) := of_decide_eq_false hc9
                refine dx_region 16 (by kernel_rfl) HS.drew (fun _ h => h) ?_; clear HS; intro w HS
                have HH := HS
                have hlx2 := (hx w HS.row1).lim
                have hly2 := (hy w HS.row0).lim
                refine dx_p (i := 0) HF rfl (by kernel_rfl) (by kernel_rfl) (by kernel_rfl) (by decide) (fun _ _ _ h => h) (fun _ => HH) (yl_move rfl) rfl rfl ?_; clear HF ac; intro ac HF
                refine dx_p (i := 1) HF rfl (by kernel_rfl) (by kernel_rfl) (by kernel_rfl) (by decide) (fun _ _ _ h => h) (fun _ => HH) (yl_move rfl) rfl rfl ?_; clear HF ac; intro ac HF
                refine dx_p (i := 2) HF rfl (by kernel_rfl) (by kernel_rfl) (by kernel_rfl) (by decide) (fun _ _ _ h => h) (fun _ => HH) (sl_hi (r := (X.take (sp X.length)).length) Tryd.underlying61 sz39 rfl rfl (by omega) (by rw [List.length_take]; omega)) rfl rfl ?_; clear HF ac; intro ac HF
                refine dx_p (i := 3) HF rfl (by kernel_rfl) (by kernel_rfl) (by kernel_rfl) (by decide) (fun _ _ _ h => h) (fun _ => HH) (yl_move rfl) rfl rfl ?_; clear HF ac; intro ac HF
                refine dx_p (i := 4) HF rfl (by kernel_rfl) (by kernel_rfl) (by kernel_rfl) (by decide) (fun _ _ _ h => h) (fun _ => HH) (yl_move rfl) rfl rfl ?_; clear HF ac; intro ac HF
                refine dx_p (i := 5) HF rfl (by kernel_rfl) (by kernel_rfl) (by kernel_rfl) (by decide) (fun _ _ _ h => h) (fun _ => HH) (sl_hi (r := (Y.take (sp X.length)).length) Tryd.underlying61 sz39 rfl rfl (by omega) (by rw [List.length_take]; omega)) rfl rfl ?_; clear HF ac; intro ac HF
                refine dx_p (i := 6) HF rfl (by kernel_rfl) (by kernel_rfl) (by kernel_rfl) (by decide) (fun _ _ _ h => h) (fun _ => HH) (yl_move rfl) rfl rfl ?_; clear HF ac; intro ac HF
                refine dx_p (i := 7) HF rfl (by kernel_rfl) (by kernel_rfl) (by kernel_rfl) (by decide) (fun _ _ _ h => h) (fun _ => HH) (yl_move rfl) rfl rfl ?_; clear HF ac; intro ac HF
                refine dx_p (i := 8) HF rfl (by kernel_rfl) (by kernel_rfl) (by kernel_rfl) (by decide) (fun _ _ _ h => h) (fun _ => HH) (sl_hi (r := (leavesH (X.take (sp X.length))).length) Tryd.underlying22 sz33 rfl rfl (by omega) (by have h1 := leavesH_length (X.take (sp X.length)); have h2 := leavesH_length X; have h3 := List.length_take (i := (sp X.length)) (l := X); omega)) rfl rfl ?_; clear HF ac; intro ac HF
                refine dx_p (i := 9) HF rfl (by kernel_rfl) (by kernel_rfl) (by kernel_rfl) (by decide) (fun _ _ _ h => h) (fun _ => HH) (yl_move rfl) rfl rfl ?_; clear HF ac; intro ac HF
                refine dx_p (i := 10) HF rfl (by kernel_rfl) (by kernel_rfl) (by kernel_rfl) (by decide) (fun _ _ _ h => h) (fun _ => HH) (yl_move rfl) rfl rfl ?_; clear HF ac; intro ac HF
                refine dx_p (i := 11) HF rfl (by kernel_rfl) (by kernel_rfl) (by kernel_rfl) (by decide) (fun _ _ _ h => h) (fun _ => HH) (sl_hi (r := (leavesH (Y.take (sp X.length))).length) Tryd.underlying22 sz33 rfl rfl (by omega) (by have h1 := leavesH_length (Y.take (sp X.length)); have h2 := leavesH_length Y; have h3 := List.length_take (i := (sp X.length)) (l := Y); omega)) rfl rfl ?_; clear HF ac; intro ac HF
                refine dx_p (i := 12) HF rfl (by kernel_rfl) (by kernel_rfl) (by kernel_rfl) (by decide) (fun _ _ _ h => h) (fun _ => HH) (yl_assign rfl) rfl rfl ?_; clear HF ac; intro ac HF
                refine dx_p (i := 13) HF rfl (by kernel_rfl) (by kernel_rfl) (by kernel_rfl) (by decide) (fun _ _ _ h => h) (fun _ => HH) (yl_assign rfl) rfl rfl ?_; clear HF ac; intro ac HF
                refine dx_p (i := 14) HF rfl (by kernel_rfl) (by kernel_rfl) (by kernel_rfl) (by decide) (fun _ _ _ h => h) (fun _ => HH) (yl_assign rfl) rfl rfl ?_; clear HF ac; intro ac HF
                refine dx_p (i := 15) HF rfl (by kernel_rfl) (by kernel_rfl) (by kernel_rfl) (by decide) (fun _ _ _ h => h) (fun _ => HH) (yl_assign rfl) rfl rfl ?_; clear HF ac; intro ac HF
                refine dx_done (by kernel_rfl) ?_
                clear HH
                refine blk_n ?_
                refine then_n ?_
                refine ⟨_, ?_, X.take (sp X.length), Y.take (sp X.length), a1, c1, b1, e1, ax, cx, ay, cy, by rw [List.length_take, List.length_take, hlen], hr0, ?_, by rw [List.length_take]; omega, hX.takeP (sp X.length) (by omega), fun p h => hXl p (List.mem_of_mem_take h), hY.takeP (sp X.length) (by omega), fun p h => hYr p (List.mem_of_mem_take h), ?_, ?_, rfl, HF.sub (by repeat (first | exact ag_nil | refine ag_cons rfl ?_)), HS.d2⟩
                · rw [List.length_take]; omega
                · rw [hiff, bsOf_split X Y (sp X.length)]; exact ⟨fun h => h.1, fun h => absurd h hc9⟩
                · intro w h; rw [leavesH_take]; exact (hx w h).takeH (sp X.length) (by rw [leavesH_length]; omega)
                · intro w h; rw [leavesH_take]; exact (hy w h).takeH (sp X.length) (by rw [leavesH_length]; omega)
          · have heq : bsOf X = bsOf Y := by simpa using hc4
            refine wp_exit ?_
            refine then_x ?_
            refine then_x ?_
            refine blk_hit ?_
            refine then_n ?_
            refine wp_seq ?_
            refine wp_seq ?_
            refine wp_region_lit ?_
            refine sx_y HF HS (yl_move rfl) rfl rfl ?_; clear HF ac; intro ac HF
            refine sx_y HF HS (yl_move rfl) rfl rfl ?_; clear HF ac; intro ac HF
            refine sx_call HF Tryd.func106 (by kernel_rfl) (by kernel_rfl) (evs_cons rfl (evs_cons rfl evs_nil)) (equal_any X a1 c1 Y b1 e1 w (hX.below HS.kp) (fun p hm => (hp p (hXl p hm)).1.below HS.kp) (hY.below HS.kp) (fun p hm => (hq p (hYr p hm)).1.below HS.kp)) rfl rfl ?_; clear HF ac
            rintro _ w ⟨rfl, k1⟩
            refine ⟨_, rfl, fun ac HF => ?_⟩
            replace HS := HS.call k1
            clear k1
            refine wpList_nil ?_
            refine then_n ?_
            refine cx_split HF rfl ?_ ?_ <;> intro hc12
            · have heq2 : bsOf X = bsOf Y := of_decide_eq_true hc12
              refine wp_seq ?_
              refine wp_region_lit ?_
              refine sx_y HF HS (bd_st (parts := #[]) Tryd.underlying85 (by kernel_rfl) ze85 evs_nil (pl := [(0, 1), (1, 1)]) (by kernel_rfl) (szs := []) rfl (inferInstance : SgW []) rfl) rfl rfl ?_; clear HF ac; intro ac HF
              refine sx_ef0 HF (ef_stores HS sz85 rfl rfl rfl rfl) rfl ?_; clear HS; rintro _ w HS
              refine sx_y HF HS (yl_assign rfl) rfl rfl ?_; clear HF ac; intro ac HF
              refine wpList_nil ?_
              refine then_n ?_
              refine wp_ret ?_
              refine then_r ?_
              exact rt2 rfl HF HS ⟨⟨_, rfl⟩, ld_all ag85 rfl rfl⟩ rfl ⟨[], [], none, 0, none, 0, by rw [show foundB l r = false from decide_eq_false (fun h => h.2.2 (hiff.2 heq2))]; rfl, (HS.sub (List.nil_sublist _) (List.nil_sublist _)).nilRow 5 1 |>.nilRow 5 1, by rw [show foundB l r = false from decide_eq_false (fun h => h.2.2 (hiff.2 heq2))]; intro h; cases h⟩
            · have hne2 : ¬ bsOf X = bsOf Y := of_decide_eq_false hc12
              exact absurd heq hne2
        · refine sx_y HF HS (yl_move rfl) rfl rfl ?_; clear HF ac; intro ac HF
          refine sx_off HF rfl rfl ?_; clear HF ac; intro ac HF
          refine sx_off HF rfl rfl ?_; clear HF ac; intro ac HF
          refine sx_off HF rfl rfl ?_; clear HF ac; intro ac HF
          refine sx_off HF rfl rfl ?_; clear HF ac; intro ac HF
          refine sx_y HF HS (yl_pick (b := false) rfl rfl) rfl rfl ?_; clear HF ac; intro ac HF
          refine wpList_nil ?_
          refine then_n ?_
          refine cx_false HF rfl ?_
          refine wp_exit ?_
          refine then_x ?_
          refine then_x ?_
          refine blk_hit ?_
          refine then_n ?_
          refine wp_seq ?_
          refine wp_seq ?_
          refine wp_region_lit ?_
          refine sx_y HF HS (yl_move rfl) rfl rfl ?_; clear HF ac; intro ac HF
          refine sx_y HF HS (yl_move rfl) rfl rfl ?_; clear HF ac; intro ac HF
          refine sx_call HF Tryd.func106 (by kernel_rfl) (by kernel_rfl) (evs_cons rfl (evs_cons rfl evs_nil)) (equal_any X a1 c1 Y b1 e1 w (hX.below HS.kp) (fun p hm => (hp p (hXl p hm)).1.below HS.kp) (hY.below HS.kp) (fun p hm => (hq p (hYr p hm)).1.below HS.kp)) rfl rfl ?_; clear HF ac
          rintro _ w ⟨rfl, k1⟩
          refine ⟨_, rfl, fun ac HF => ?_⟩
          replace HS := HS.call k1
          clear k1
          refine wpList_nil ?_
          refine then_n ?_
          refine cx_split HF rfl ?_ ?_ <;> intro hc12
          · have heq2 : bsOf X = bsOf Y := of_decide_eq_true hc12
            refine wp_seq ?_
            refine wp_region_lit ?_
            refine sx_y HF HS (bd_st (parts := #[]) Tryd.underlying85 (by kernel_rfl) ze85 evs_nil (pl := [(0, 1), (1, 1)]) (by kernel_rfl) (szs := []) rfl (inferInstance : SgW []) rfl) rfl rfl ?_; clear HF ac; intro ac HF
            refine sx_ef0 HF (ef_stores HS sz85 rfl rfl rfl rfl) rfl ?_; clear HS; rintro _ w HS
            refine sx_y HF HS (yl_assign rfl) rfl rfl ?_; clear HF ac; intro ac HF
            refine wpList_nil ?_
            refine then_n ?_
            refine wp_ret ?_
            refine then_r ?_
            exact rt2 rfl HF HS ⟨⟨_, rfl⟩, ld_all ag85 rfl rfl⟩ rfl ⟨[], [], none, 0, none, 0, by rw [show foundB l r = false from decide_eq_false (fun h => h.2.2 (hiff.2 heq2))]; rfl, (HS.sub (List.nil_sublist _) (List.nil_sublist _)).nilRow 5 1 |>.nilRow 5 1, by rw [show foundB l r = false from decide_eq_false (fun h => h.2.2 (hiff.2 heq2))]; intro h; cases h⟩
          · have hne2 : ¬ bsOf X = bsOf Y := of_decide_eq_false hc12
            have hx1 : X.length = 1 := by
              rcases Nat.lt_or_ge 0 X.length with h | h
              · omega
              · exact absurd (by rw [List.eq_nil_of_length_eq_zero (show X.length = 0 by omega), List.eq_nil_of_length_eq_zero (show Y.length = 0 by omega)]) hne2
            obtain ⟨x, rfl⟩ : ∃ x, X = [x] := List.length_eq_one_iff.1 hx1
            obtain ⟨y, rfl⟩ : ∃ y, Y = [y] := List.length_eq_one_iff.1 (by omega)
            have hrb := right_leaves (xs := x.l) (ys := y.l) (fun h => hne2 (by simp [bsOf, h])) hrt
            have hfd : foundB l r = true := decide_eq_true ⟨hl0, hrt0, fun h => hne2 (hiff.1 h)⟩
            have hpx := hp x (hXl x (by simp))
            have hpy := hq y (hYr y (by simp))
            have hone : [x].length = 1 := rfl
            have hone2 : [y].length = 1 := rfl
            refine wp_skip ?_
            refine then_n ?_
            refine wp_seq ?_
            refine dx_region 6 (by kernel_rfl) HS.drew (fun _ h => h) ?_; clear HS; intro w HS
            have HH := HS
            refine dx_p (i := 0) HF rfl (by kernel_rfl) (by kernel_rfl) (by kernel_rfl) (by decide) (fun _ _ _ h => h) (fun _ => HH) (yl_move rfl) rfl rfl ?_; clear HF ac; intro ac HF
            refine dx_p (i := 1) HF rfl (by kernel_rfl) (by kernel_rfl) (by kernel_rfl) (by decide) (fun _ _ _ h => h) (fun _ => HH) (ix_sl (k := 0) Tryd.underlying61 sz39 rfl rfl (by omega) hX.nil0) rfl rfl ?_; clear HF ac; intro ac HF
            refine dx_k (i := 2) HF rfl (by kernel_rfl) (by kernel_rfl) (by kernel_rfl) (by kernel_rfl) (by kernel_rfl) (fun _ _ _ h => h) HH (ld_elC sc39 rfl (v := .slice x.a x.l.length x.c) rfl (fun w h => hX.below h.kp)) rfl rfl ?_; clear HF ac; intro ac HF
            refine dx_p (i := 3) HF rfl (by kernel_rfl) (by kernel_rfl) (by kernel_rfl) (by decide) (fun _ _ _ h => h) (fun _ => HH) (yl_move rfl) rfl rfl ?_; clear HF ac; intro ac HF
            refine dx_p (i := 4) HF rfl (by kernel_rfl) (by kernel_rfl) (by kernel_rfl) (by decide) (fun _ _ _ h => h) (fun _ => HH) (ix_sl (k := 0) Tryd.underlying61 sz39 rfl rfl (by omega) hY.nil0) rfl rfl ?_; clear HF ac; intro ac HF
            refine dx_k (i := 5) HF rfl (by kernel_rfl) (by kernel_rfl) (by kernel_rfl) (by kernel_rfl) (by kernel_rfl) (fun _ _ _ h => h) HH (ld_elC sc39 rfl (v := .slice y.a y.l.length y.c) rfl (fun w h => hY.below h.kp)) rfl rfl ?_; clear HF ac; intro ac HF
            refine dx_one (i := 6) (by kernel_rfl) ?_
            refine op_call (i := 6) HF rfl Tryd.func105 (by kernel_rfl) (by kernel_rfl) (evs_cons rfl (evs_cons rfl evs_nil)) (leaves2_any x.l y.l x.a y.a x.c y.c w (hpx.1.below HS.kp) (hpy.1.below HS.kp) (by omega) (by omega) (hL.below HS.kp) (Nat.le_trans h2 HS.kp.size)) rfl rfl ?_; clear HF ac
            rintro _ w ⟨a9, c9, a12, c12, rfl, k1⟩
            rw [hrb]
            refine ⟨_, rfl, fun ac HF => ?_⟩
            replace HS := HS.joinR2 k1
            clear k1
            refine ⟨fun h => absurd h (by decide), ?_⟩
            refine dx_p (i := 7) HF rfl (by kernel_rfl) (by kernel_rfl) (by kernel_rfl) (by decide) (fun _ _ _ h => h) (fun h => absurd h (by decide)) (yl_extract rfl rfl) rfl rfl ?_; clear HF ac; intro ac HF
            refine dx_p (i := 8) HF rfl (by kernel_rfl) (by kernel_rfl) (by kernel_rfl) (by decide) (fun _ _ _ h => h) (fun h => absurd h (by decide)) (yl_extract rfl rfl) rfl rfl ?_; clear HF ac; intro ac HF
            refine dx_one (i := 9) (by kernel_rfl) ?_
            refine op_ef0 (i := 9) HF rfl rfl (ef_stores HS sz85 rfl rfl rfl rfl) ?_; clear HS; rintro _ w HS
            refine ⟨fun h => absurd h (by decide), ?_⟩
            refine dx_p (i := 10) HF rfl (by kernel_rfl) (by kernel_rfl) (by kernel_rfl) (by decide) (fun _ _ _ h => h) (fun h => absurd h (by decide)) (yl_assign rfl) rfl rfl ?_; clear HF ac; intro ac HF
            refine dx_done (by kernel_rfl) ?_
            clear HH
            refine then_n ?_
            refine wp_ret ?_
            exact rt2 rfl HF HS ⟨⟨_, rfl⟩, ld_all ag85 rfl rfl⟩ rfl ⟨_, _, _, _, _, _, by rw [hfd], HS.sub (List.nil_sublist _) (List.Sublist.cons_cons _ (List.Sublist.cons_cons _ (List.nil_sublist _))), fun _ => hrb⟩

end Go.Proofs.YtalnkhgonfcabaaDoor
