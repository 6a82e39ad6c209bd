/-
  compact: Append, Copy, Equal. (Printed by sx_cmp2.py.)
-/
import Derived.Test.YtalnkhgonfcabaaDoorCmp1
namespace Go.Proofs.YtalnkhgonfcabaaDoor
open Go.RowKit

/-! ### Types -/
namespace Cmp2
theorem ag33 : AgT Tryd.prog 33 32 := AgT.mk' Tryd.underlying33 rfl (by kernel_rfl)
theorem fd101x0 : FdT Tryd.prog 101 0 0 := FdT.mk' (k := 0) Tryd.underlying101 (by kernel_rfl)
theorem fd101x1 : FdT Tryd.prog 101 1 1 := FdT.mk' (k := 0) Tryd.underlying101 (by kernel_rfl)
theorem sc3 : ScT Tryd.prog 3 := ScT.mk' Tryd.underlying3 rfl (by kernel_rfl)
theorem sc22 : ScT Tryd.prog 22 := ScT.mk' Tryd.underlying22 rfl (by kernel_rfl)
theorem sz33 : (Tryd.prog.info? 33).map (·.size) = some 32 := by kernel_rfl
theorem ze33 : ZeS Tryd.prog 33 [(32, hv zeroH)] := ⟨hv zeroH, ZeT.mk' (by kernel_rfl), (sgA_h zeroH).symm⟩
theorem ze101 : ZeS Tryd.prog 101 [(1, .int .i64 0), (1, .slice none 0 0)] := ⟨.agg _, ZeT.mk' (by kernel_rfl), rfl⟩
end Cmp2
open Go.Proofs.YtalnkhgonfcabaaDoor.Cmp2

theorem _root_.Go.Proofs.YtalnkhgonfcabaaDoor.St.low {F : List Nat} {w0 w : World} {L : List Bk} {R : List Rw} {B : Nat} (h : St F w0 L R w) (hF : ∀ x ∈ F, B ≤ x) (hB : B ≤ w0.heap.size) : ∀ x ∈ ids L R, B ≤ x := fun x hx => by
  rcases h.new x hx with h1 | h1
  · omega
  · exact hF x h1
theorem pop_le : ∀ (f x : Nat), x ≤ f → pop x ≤ x
  | 0, x, h => by obtain rfl : x = 0 := by omega
                  exact Nat.le_refl _
  | f + 1, x, h => by
    rw [pop_step]
    by_cases h0 : x = 0
    · subst h0; exact Nat.le_refl _
    · have := pop_le f (x / 2) (by omega)
      omega
/-- So many leaves more. -/
def appT : Nat → List Hsh → List Hsh → List Hsh
  | _, ps, [] => ps
  | n, ps, h :: l => appT (n + 1) (carryT (tons 64 n) ps h) l
theorem appT_len : ∀ (l : List Hsh) (n : Nat) (ps : List Hsh), ps.length = pop n → n + l.length < 18446744073709551616 → (appT n ps l).length = pop (n + l.length)
  | [], n, ps, h, _ => h
  | x :: l, n, ps, h, hb => by
    rw [List.length_cons] at hb ⊢
    have h1 := carryT_len (tons 64 n) ps x (by rw [h]; exact tons_le n (by omega))
    have h2 := tons_pop 64 n (by omega)
    rw [appT, appT_len l (n + 1) _ (by omega) (by omega)]
    congr 1; omega
theorem appT_peaks : ∀ (l L : List Hsh), (L ++ l).length < 9223372036854775807 → appT L.length (peaksOf L) l = peaksOf (L ++ l)
  | [], L, _ => by rw [List.append_nil]; rfl
  | x :: l, L, h => by
    rw [List.length_append, List.length_cons] at h
    have e : (L ++ [x]).length = L.length + 1 := by simp
    rw [appT, ← peaks_T L x (by omega), ← e, appT_peaks l (L ++ [x]) (by rw [List.length_append, e]; omega), List.append_assoc]
    rfl
theorem peaksOf_pop (L : List Hsh) (h : L.length < 9223372036854775807) : (peaksOf L).length = pop L.length := by
  have h1 := appT_peaks L [] (by simpa using h)
  have h2 := appT_len L 0 [] rfl (by omega)
  rw [List.nil_append] at h1
  rw [← h1]
  simpa [peaksOf_nil] using h2

set_option maxRecDepth 100000 in
theorem append9_many (g n : Nat) (ps l : List Hsh) (a b : Option Addr) (c e : Nat) (w0 : World) (hg : RgA w0 g n ps a c) (hr : Rd w0 b l.length e 32 (hsc l)) (h : 1048576 < n + l.length) (hn : n ≤ 1048576) :
    Calls Tryd.prog 17 #[.pointer (some ⟨g, 0, none⟩), .slice b l.length e] w0 fun e w' => e = .returned (.int .i64 12) ∧ Kp [] w0 w' := by
  have hlm := hr.lim
  refine calls_stL (args := [.pointer (some ⟨g, 0, none⟩), .slice b l.length e]) (St.ofBlk hg.b) Tryd.func17 rfl (n := 25) rfl rfl ?_
  intro ac w HF HS
  refine wp_seq ?_
  refine wp_region_lit ?_
  refine sx_y HF HS (yl_assign rfl) rfl rfl ?_; clear HF ac; intro ac HF
  refine wpList_nil ?_
  refine then_n ?_
  refine wp_seq ?_
  refine wp_seq ?_
  refine wp_region_lit ?_
  refine sx_y HF HS (yl_move rfl) rfl rfl ?_; clear HF ac; intro ac HF
  refine sx_y HF HS (yl_len_slice Tryd.underlying22 rfl) rfl rfl ?_; clear HF ac; intro ac HF
  refine sx_y HF HS (yl_move rfl) rfl rfl ?_; clear HF ac; intro ac HF
  refine sx_y HF HS (yl_nilCheck rfl) rfl rfl ?_; clear HF ac; intro ac HF
  refine sx_y HF HS (fa_st fd101x0 rfl) rfl rfl ?_; clear HF ac; intro ac HF
  refine sx_y HF HS (ld_sc sc3 rfl rfl rfl) rfl rfl ?_; clear HF ac; intro ac HF
  refine sx_y HF HS (yl_sub64 (r := ((1048576 - n : Nat) : Int)) rfl rfl (by omega) (by omega)) rfl rfl ?_; clear HF ac; intro ac HF
  refine sx_y HF HS (yl_gtr rfl rfl (decide_eq_true (by omega))) rfl rfl ?_; clear HF ac; intro ac HF
  refine wpList_nil ?_
  refine then_n ?_
  refine cx_true HF rfl ?_
  refine wp_seq ?_
  refine wp_region_lit ?_
  refine sx_y HF HS (yl_assign rfl) rfl rfl ?_; clear HF ac; intro ac HF
  refine wpList_nil ?_
  refine then_n ?_
  refine wp_ret ?_
  refine then_r ?_
  exact rt1 rfl HF HS rfl ⟨rfl, kp_own1 HS hg.b⟩

set_option maxRecDepth 100000 in
set_option maxHeartbeats 1000000 in
theorem append9_any (g n : Nat) (ps l : List Hsh) (a b : Option Addr) (c e : Nat) (w0 : World) (hg : RgA w0 g n ps a c) (hr : Rd w0 b l.length e 32 (hsc l)) (h : n + l.length ≤ 1048576) (hpl : ps.length = pop n) (hF4 : ∀ x ∈ ids [⟨g, sgA (rgS n a ps.length c), 101⟩] [⟨33, 32, a, ps.length, c, hsc ps⟩], 4 ≤ x) (hdis : 0 < l.length → ∀ x ∈ aF b, x ∉ ids [⟨g, sgA (rgS n a ps.length c), 101⟩] [⟨33, 32, a, ps.length, c, hsc ps⟩]) (hT : Tab w0) (hL : Laid w0) (h2 : 4 ≤ w0.heap.size) :
    Calls Tryd.prog 17 #[.pointer (some ⟨g, 0, none⟩), .slice b l.length e] w0 fun e w' => e = .returned (.int .i64 0) ∧ ∃ a' c', St (ids [⟨g, sgA (rgS n a ps.length c), 101⟩] [⟨33, 32, a, ps.length, c, hsc ps⟩]) w0 [⟨g, sgA (rgS ((n + l.length : Nat) : Int) a' (appT n ps l).length c'), 101⟩] [⟨33, 32, a', (appT n ps l).length, c', hsc (appT n ps l)⟩] w' := by
  obtain ⟨Fo, hFF⟩ : ∃ F, F = ids [⟨g, sgA (rgS n a ps.length c), 101⟩] [⟨33, 32, a, ps.length, c, hsc ps⟩] := ⟨_, rfl⟩
  have HS0 := hg.st
  rw [← hFF] at HS0 hF4 hdis ⊢
  refine calls_stL (args := [.pointer (some ⟨g, 0, none⟩), .slice b l.length e]) (HS0) Tryd.func17 rfl (n := 25) rfl rfl ?_
  intro ac w HF HS
  refine wp_seq ?_
  refine wp_region_lit ?_
  refine sx_y HF HS (yl_assign rfl) rfl rfl ?_; clear HF ac; intro ac HF
  refine wpList_nil ?_
  refine then_n ?_
  refine wp_seq ?_
  refine wp_seq ?_
  refine wp_region_lit ?_
  refine sx_y HF HS (yl_move rfl) rfl rfl ?_; clear HF ac; intro ac HF
  refine sx_y HF HS (yl_len_slice Tryd.underlying22 rfl) rfl rfl ?_; clear HF ac; intro ac HF
  refine sx_y HF HS (yl_move rfl) rfl rfl ?_; clear HF ac; intro ac HF
  refine sx_y HF HS (yl_nilCheck rfl) rfl rfl ?_; clear HF ac; intro ac HF
  refine sx_y HF HS (fa_st fd101x0 rfl) rfl rfl ?_; clear HF ac; intro ac HF
  refine sx_y HF HS (ld_sc sc3 rfl rfl rfl) rfl rfl ?_; clear HF ac; intro ac HF
  refine sx_y HF HS (yl_sub64 (r := ((1048576 - n : Nat) : Int)) rfl rfl (by omega) (by omega)) rfl rfl ?_; clear HF ac; intro ac HF
  refine sx_y HF HS (yl_gtr rfl rfl (decide_eq_false (by omega))) rfl rfl ?_; clear HF ac; intro ac HF
  refine wpList_nil ?_
  refine then_n ?_
  refine cx_false HF rfl ?_
  refine wp_skip ?_
  refine then_n ?_
  refine wp_seq ?_
  refine wp_seq ?_
  refine wp_region_lit ?_
  refine sx_y HF HS (yl_move rfl) rfl rfl ?_; clear HF ac; intro ac HF
  refine sx_y HF HS (yl_len_slice Tryd.underlying22 rfl) rfl rfl ?_; clear HF ac; intro ac HF
  refine sx_y HF HS (yl_move rfl) rfl rfl ?_; clear HF ac; intro ac HF
  refine wpList_nil ?_
  refine then_n ?_
  refine wp_block ?_
  replace HF := HF.sub (m' := [(0, _), (4, _), (15, _), (16, _), (17, _)]) (by repeat (first | exact ag_nil | refine ag_cons rfl ?_))
  refine cx_loop (m := [(0, _), (4, _), (15, _), (16, _)]) (HF.sub (by repeat (first | exact ag_nil | refine ag_cons rfl ?_))) (fun m d ac w => ∃ (i : Nat) (qs : List Hsh) (a1 : Option Addr) (c1 : Nat), i ≤ l.length ∧ qs.length = pop (n + i) ∧ appT (n + i) qs (l.drop i) = appT n ps l ∧ d = l.length - i ∧ Fr ([(17, .int .i64 (i : Int))] ++ m) 25 ac ∧ St Fo w0 [⟨g, sgA (rgS ((n + i : Nat) : Int) a1 qs.length c1), 101⟩] [⟨33, 32, a1, qs.length, c1, hsc qs⟩] w) ?_ ?_
  · exact ⟨_, 0, ps, a, c, Nat.zero_le _, hpl, rfl, rfl, HF.sub (by repeat (first | exact ag_nil | refine ag_cons rfl ?_)), HS⟩
  · clear HF HS ac w
    rintro d ac w ⟨i, qs, a1, c1, hi0, hql, hqe, rfl, HF, HS⟩
    refine wp_seq ?_
    refine wp_region_lit ?_
    refine sx_dec HF HS (yl_lss rfl rfl rfl) rfl rfl ?_ ?_ <;> clear HF ac <;> intro h4x0 ac HF
    · have hi : i + 1 ≤ l.length := by omega
      obtain ⟨x, hx⟩ : ∃ x, l[i]? = some x := ⟨_, List.getElem?_eq_getElem (by omega)⟩
      have htl := tons_le (n + i) (by omega)
      have htp := tons_pop 64 (n + i) (by omega)
      have hcl := carryT_len (tons 64 (n + i)) qs x (by omega)
      have hpl2 := pop_le (n + i) (n + i) (Nat.le_refl _)
      have hlm := hr.lim
      have hbd := hdis (by omega)
      refine wpList_nil ?_
      refine then_n ?_
      refine wp_seq ?_
      refine cx_true HF rfl ?_
      refine wp_skip ?_
      refine then_n ?_
      refine wp_seq ?_
      refine wp_block ?_
      refine wp_seq ?_
      refine wp_region_lit ?_
      refine sx_y HF HS (ix_sl (k := i) Tryd.underlying22 sz33 rfl rfl (by omega) (hr.kept HS.kp hbd).nil0) rfl rfl ?_; clear HF ac; intro ac HF
      refine sx_y HF HS (ld_elH ag33 rfl hx (fun w h => hr.kept h.kp hbd)) rfl rfl ?_; clear HF ac; intro ac HF
      refine sx_ef HF (ef_alloc HS ze33) rfl rfl ?_; clear HF HS ac; rintro _ w ac ⟨g6, rfl, HS⟩ HF
      refine sx_ef0 HF (ef_store HS sz33 rfl rfl rfl) rfl ?_; clear HS; rintro _ w HS
      refine wpList_nil ?_
      refine then_n ?_
      refine wp_region_lit ?_
      refine sx_y HF HS (yl_move rfl) rfl rfl ?_; clear HF ac; intro ac HF
      refine sx_y HF HS (ld_ag ag33 rfl rfl) rfl rfl ?_; clear HF ac; intro ac HF
      refine sx_call HF Tryd.func68 (by kernel_rfl) (by kernel_rfl) (evs_cons rfl (evs_cons rfl evs_nil)) (one9_any g (n + i) qs a1 c1 x w ⟨HS.blk _ (List.mem_cons_of_mem _ List.mem_cons_self), HS.row _ List.mem_cons_self⟩ (by omega) (by omega) (by omega) (HS.d1.low hF4 h2) (hT.kept HS.kp hF4) (hL.kept HS.kp hF4) (Nat.le_trans h2 HS.kp.size)) rfl rfl ?_; clear HF ac
      rintro _ w ⟨rfl, a9, c9, k1⟩
      refine ⟨_, rfl, fun ac HF => ?_⟩
      replace HS : St Fo w0 [⟨g, _, _⟩] _ w := (St.upd (L1 := [_]) (L := [⟨g6, _, _⟩]) (R1 := [_]) (R := []) HS.swap k1).swap.d1
      clear k1
      refine wpList_nil ?_
      refine blk_n ?_
      refine then_n ?_
      refine wp_region_lit ?_
      refine sx_y HF HS (yl_add64 rfl rfl rfl (by omega)) rfl rfl ?_; clear HF ac; intro ac HF
      refine sx_y HF HS (yl_move rfl) rfl rfl ?_; clear HF ac; intro ac HF
      refine wpList_nil ?_
      refine then_n ?_
      refine ⟨_, ?_, i + 1, _, a9, c9, hi, ?_, ?_, rfl, HF.sub (by repeat (first | exact ag_nil | refine ag_cons rfl ?_)), HS⟩
      · omega
      · rw [← Nat.add_assoc]; omega
      · rw [← hqe, drop_at hx, appT]; rfl
    · obtain rfl : i = l.length := by omega
      rw [List.drop_length] at hqe
      obtain rfl : qs = appT n ps l := hqe
      refine wpList_nil ?_
      refine then_n ?_
      refine wp_seq ?_
      refine cx_false HF rfl ?_
      refine wp_exit ?_
      refine then_x ?_
      refine then_x ?_
      refine blk_hit ?_
      refine then_n ?_
      refine wp_seq ?_
      refine wp_region_lit ?_
      refine sx_y HF HS (yl_assign rfl) rfl rfl ?_; clear HF ac; intro ac HF
      refine wpList_nil ?_
      refine then_n ?_
      refine wp_ret ?_
      subst hFF
      exact rt1 rfl HF HS rfl ⟨rfl, _, _, HS⟩

set_option maxRecDepth 100000 in
theorem copy9_any (g n : Nat) (ps : List Hsh) (a : Option Addr) (c : Nat) (w0 : World) (h : RgA w0 g n ps a c) (hl : ps.length ≤ 1099511627776) :
    Calls Tryd.prog 28 #[.pointer (some ⟨g, 0, none⟩)] w0 fun e w' => ∃ g' a' c', e = .returned (.pointer (some ⟨g', 0, none⟩)) ∧ St [] w0 [⟨g', sgA (rgS n a' ps.length c'), 101⟩] [⟨33, 32, a', ps.length, c', hsc ps⟩] w' := by
  refine calls_stL (args := [.pointer (some ⟨g, 0, none⟩)]) (St.ofBlk h.b) Tryd.func28 rfl (n := 14) rfl rfl ?_
  intro ac w HF HS
  refine wp_seq ?_
  refine wp_region_lit ?_
  refine sx_y HF HS (yl_assign rfl) rfl rfl ?_; clear HF ac; intro ac HF
  refine wpList_nil ?_
  refine then_n ?_
  refine wp_seq ?_
  refine dx_region 12 (by kernel_rfl) HS.drew (fun _ h => h) ?_; clear HS; intro w HS
  have HH := HS
  refine dx_p (i := 0) HF rfl (by kernel_rfl) (by kernel_rfl) (by kernel_rfl) (by decide) (fun _ _ _ h => h) (fun _ => HH) (yl_move rfl) rfl rfl ?_; clear HF ac; intro ac HF
  refine dx_p (i := 1) HF rfl (by kernel_rfl) (by kernel_rfl) (by kernel_rfl) (by decide) (fun _ _ _ h => h) (fun _ => HH) (yl_nilCheck rfl) rfl rfl ?_; clear HF ac; intro ac HF
  refine dx_p (i := 2) HF rfl (by kernel_rfl) (by kernel_rfl) (by kernel_rfl) (by decide) (fun _ _ _ h => h) (fun _ => HH) (fa_st fd101x0 rfl) rfl rfl ?_; clear HF ac; intro ac HF
  refine dx_k (i := 3) HF rfl (by kernel_rfl) (by kernel_rfl) (by kernel_rfl) (by kernel_rfl) (by kernel_rfl) (fun _ _ _ h => h) HH (ld_sc sc3 rfl rfl rfl) rfl rfl ?_; clear HF ac; intro ac HF
  refine dx_p (i := 4) HF rfl (by kernel_rfl) (by kernel_rfl) (by kernel_rfl) (by decide) (fun _ _ _ h => h) (fun _ => HH) (yl_move rfl) rfl rfl ?_; clear HF ac; intro ac HF
  refine dx_p (i := 5) HF rfl (by kernel_rfl) (by kernel_rfl) (by kernel_rfl) (by decide) (fun _ _ _ h => h) (fun _ => HH) (yl_nilCheck rfl) rfl rfl ?_; clear HF ac; intro ac HF
  refine dx_p (i := 6) HF rfl (by kernel_rfl) (by kernel_rfl) (by kernel_rfl) (by decide) (fun _ _ _ h => h) (fun _ => HH) (fa_st fd101x1 rfl) rfl rfl ?_; clear HF ac; intro ac HF
  refine dx_k (i := 7) HF rfl (by kernel_rfl) (by kernel_rfl) (by kernel_rfl) (by kernel_rfl) (by kernel_rfl) (fun _ _ _ h => h) HH (ld_sc sc22 rfl rfl rfl) rfl rfl ?_; clear HF ac; intro ac HF
  refine dx_one (i := 8) (by kernel_rfl) ?_
  refine op_call (i := 8) HF rfl Tryd.func71 (by kernel_rfl) (by kernel_rfl) (evs_cons rfl evs_nil) (cloneH_any a c ps w (h.rd.below (kp_own1 HS h.b)) hl) rfl rfl ?_; clear HF ac
  rintro _ w ⟨a1, c1, rfl, k1⟩
  refine ⟨_, rfl, fun ac HF => ?_⟩
  replace HH := HH.call k1.kp
  replace HS := HS.joinR1 k1
  clear k1
  refine ⟨fun _ => HH, ?_⟩
  refine dx_p (i := 9) HF rfl (by kernel_rfl) (by kernel_rfl) (by kernel_rfl) (by decide) (fun _ _ _ h => h) (fun _ => HH) (bd_st (parts := #[(0, .tmp 6), (1, .tmp 11)]) Tryd.underlying101 (by kernel_rfl) ze101 (evs_cons rfl (evs_cons rfl evs_nil)) (pl := [(0, 1), (1, 1)]) (by kernel_rfl) (szs := [1, 1]) rfl (inferInstance : SgW [(1, _), (1, _)]) rfl) rfl rfl ?_; clear HF ac; intro ac HF
  refine dx_one (i := 10) (by kernel_rfl) ?_
  refine op_ef (i := 10) HF rfl rfl rfl (ef_boxs HS rfl) ?_; clear HF HS ac; rintro _ w ac ⟨g13, rfl, HS⟩ HF
  replace HH := HS.d1.r1
  refine ⟨fun _ => HH, ?_⟩
  refine dx_p (i := 11) HF rfl (by kernel_rfl) (by kernel_rfl) (by kernel_rfl) (by decide) (fun _ _ _ h => h) (fun _ => HH) (yl_assign rfl) rfl rfl ?_; clear HF ac; intro ac HF
  refine dx_done (by kernel_rfl) ?_
  clear HH
  refine then_n ?_
  refine wp_ret ?_
  exact rt1 rfl HF HS rfl ⟨_, _, _, rfl, St.own1 (L := [_]) (b := ⟨g, _, _⟩) HS (kp_own1 HS h.b)⟩

set_option maxRecDepth 100000 in
theorem equalH_any (l r : List Hsh) (a b : Option Addr) (c e : Nat) (w0 : World) (hr : Rd w0 a l.length c 32 (hsc l)) (hs : Rd w0 b r.length e 32 (hsc r)) :
    Calls Tryd.prog 82 #[.slice a l.length c, .slice b r.length e] w0 fun e w' => e = .returned (.bool (decide (l = r))) ∧ Kp [] w0 w' := by
  refine calls_st (F := []) (args := [.slice a l.length c, .slice b r.length e]) Tryd.func82 rfl (n := 26) rfl rfl ?_
  intro ac w HF HS
  refine wp_seq ?_
  refine wp_region_lit ?_
  refine sx_y HF HS (yl_assign rfl) rfl rfl ?_; clear HF ac; intro ac HF
  refine wpList_nil ?_
  refine then_n ?_
  refine wp_seq ?_
  refine wp_seq ?_
  refine wp_region_lit ?_
  refine sx_y HF HS (yl_move rfl) rfl rfl ?_; clear HF ac; intro ac HF
  refine sx_y HF HS (yl_len_slice Tryd.underlying22 rfl) rfl rfl ?_; clear HF ac; intro ac HF
  refine sx_y HF HS (yl_move rfl) rfl rfl ?_; clear HF ac; intro ac HF
  refine sx_y HF HS (yl_len_slice Tryd.underlying22 rfl) rfl rfl ?_; clear HF ac; intro ac HF
  refine sx_dec HF HS (yl_neq rfl rfl rfl) rfl rfl ?_ ?_ <;> clear HF ac <;> intro h1x4 ac HF
  · have hne : ¬ l = r := fun h => by subst h; omega
    refine wpList_nil ?_
    refine then_n ?_
    refine cx_true HF rfl ?_
    refine wp_seq ?_
    refine wp_region_lit ?_
    refine sx_y HF HS (yl_assign rfl) rfl rfl ?_; clear HF ac; intro ac HF
    refine wpList_nil ?_
    refine then_n ?_
    refine wp_ret ?_
    refine then_r ?_
    exact rt1 rfl HF HS rfl ⟨by rw [decide_eq_false hne], HS.kp⟩
  · have hlr : l.length = r.length := by omega
    refine wpList_nil ?_
    refine then_n ?_
    refine cx_false HF rfl ?_
    refine wp_skip ?_
    refine then_n ?_
    refine wp_seq ?_
    refine wp_seq ?_
    refine wp_region_lit ?_
    refine sx_y HF HS (yl_move rfl) rfl rfl ?_; clear HF ac; intro ac HF
    refine sx_y HF HS (yl_len_slice Tryd.underlying22 rfl) rfl rfl ?_; clear HF ac; intro ac HF
    refine sx_y HF HS (yl_move rfl) rfl rfl ?_; clear HF ac; intro ac HF
    refine wpList_nil ?_
    refine then_n ?_
    refine wp_block ?_
    replace HF := HF.sub (m' := [(0, _), (1, _), (12, _), (13, _)]) (by repeat (first | exact ag_nil | refine ag_cons rfl ?_))
    refine cx_loop (m := [(0, _), (1, _), (12, _)]) (HF.sub (by repeat (first | exact ag_nil | refine ag_cons rfl ?_))) (fun m d ac w => ∃ i : Nat, i ≤ l.length ∧ l.take i = r.take i ∧ d = l.length - i ∧ Fr ([(13, .int .i64 (i : Int))] ++ m) 26 ac ∧ St [] w0 [] [] w) ?_ ?_
    · exact ⟨_, 0, Nat.zero_le _, rfl, rfl, HF.sub (by repeat (first | exact ag_nil | refine ag_cons rfl ?_)), HS⟩
    · clear HF HS ac w
      rintro d ac w ⟨i, hi0, htk, rfl, HF, HS⟩
      refine wp_seq ?_
      refine wp_region_lit ?_
      refine sx_dec HF HS (yl_lss rfl rfl rfl) rfl rfl ?_ ?_ <;> clear HF ac <;> intro h4x0 ac HF
      · have hlm := hr.lim
        have hlm2 := hs.lim
        have hi : i + 1 ≤ l.length := by omega
        obtain ⟨x, hx⟩ : ∃ x, l[i]? = some x := ⟨_, List.getElem?_eq_getElem (by omega)⟩
        obtain ⟨y, hy⟩ : ∃ y, r[i]? = some y := ⟨_, List.getElem?_eq_getElem (by omega)⟩
        refine wpList_nil ?_
        refine then_n ?_
        refine wp_seq ?_
        refine cx_true HF rfl ?_
        refine wp_skip ?_
        refine then_n ?_
        refine wp_seq ?_
        refine wp_block ?_
        refine wp_seq ?_
        refine wp_region_lit ?_
        refine sx_y HF HS (yl_move rfl) rfl rfl ?_; clear HF ac; intro ac HF
        refine sx_y HF HS (yl_assign rfl) rfl rfl ?_; clear HF ac; intro ac HF
        refine wpList_nil ?_
        refine then_n ?_
        refine wp_seq ?_
        refine dx_region 9 (by kernel_rfl) HS.drew (fun _ h => h) ?_; clear HS; intro w HS
        have HH := HS
        refine dx_p (i := 0) HF rfl (by kernel_rfl) (by kernel_rfl) (by kernel_rfl) (by decide) (fun _ _ _ h => h) (fun _ => HH) (yl_move rfl) rfl rfl ?_; clear HF ac; intro ac HF
        refine dx_p (i := 1) HF rfl (by kernel_rfl) (by kernel_rfl) (by kernel_rfl) (by decide) (fun _ _ _ h => h) (fun _ => HH) (yl_move rfl) rfl rfl ?_; clear HF ac; intro ac HF
        refine dx_p (i := 2) HF rfl (by kernel_rfl) (by kernel_rfl) (by kernel_rfl) (by decide) (fun _ _ _ h => h) (fun _ => HH) (ix_sl (k := i) Tryd.underlying22 sz33 rfl rfl (by omega) hr.nil0) rfl rfl ?_; clear HF ac; intro ac HF
        refine dx_k (i := 3) HF rfl (by kernel_rfl) (by kernel_rfl) (by kernel_rfl) (by kernel_rfl) (by kernel_rfl) (fun _ _ _ h => h) HH (ld_elH ag33 rfl hx (fun w h => hr.below h.kp)) rfl rfl ?_; clear HF ac; intro ac HF
        refine dx_p (i := 4) HF rfl (by kernel_rfl) (by kernel_rfl) (by kernel_rfl) (by decide) (fun _ _ _ h => h) (fun _ => HH) (yl_move rfl) rfl rfl ?_; clear HF ac; intro ac HF
        refine dx_p (i := 5) HF rfl (by kernel_rfl) (by kernel_rfl) (by kernel_rfl) (by decide) (fun _ _ _ h => h) (fun _ => HH) (yl_move rfl) rfl rfl ?_; clear HF ac; intro ac HF
        refine dx_p (i := 6) HF rfl (by kernel_rfl) (by kernel_rfl) (by kernel_rfl) (by decide) (fun _ _ _ h => h) (fun _ => HH) (ix_sl (k := i) Tryd.underlying22 sz33 rfl rfl (by omega) hs.nil0) rfl rfl ?_; clear HF ac; intro ac HF
        refine dx_k (i := 7) HF rfl (by kernel_rfl) (by kernel_rfl) (by kernel_rfl) (by kernel_rfl) (by kernel_rfl) (fun _ _ _ h => h) HH (ld_elH ag33 rfl hy (fun w h => hs.below h.kp)) rfl rfl ?_; clear HF ac; intro ac HF
        refine dx_p (i := 8) HF rfl (by kernel_rfl) (by kernel_rfl) (by kernel_rfl) (by decide) (fun _ _ _ h => h) (fun _ => HH) (Tryd.yl_neH rfl rfl rfl) rfl rfl ?_; clear HF ac; intro ac HF
        refine dx_done (by kernel_rfl) ?_
        clear HH
        refine then_n ?_
        refine cx_split HF rfl ?_ ?_ <;> intro hc6
        · have hxy : ¬ x = y := of_decide_eq_true hc6
          have hne : ¬ l = r := fun h => by subst h; exact hxy (Option.some.inj (hx.symm.trans hy))
          refine wp_seq ?_
          refine wp_region_lit ?_
          refine sx_y HF HS (yl_assign rfl) rfl rfl ?_; clear HF ac; intro ac HF
          refine wpList_nil ?_
          refine then_n ?_
          refine wp_ret ?_
          refine blk_r ?_
          refine then_r ?_
          refine then_r ?_
          refine blk_r ?_
          refine then_r ?_
          exact rt1 rfl HF HS rfl ⟨by rw [decide_eq_false hne], HS.kp⟩
        · have hxy : x = y := Decidable.not_not.1 (of_decide_eq_false hc6)
          refine wp_skip ?_
          refine blk_n ?_
          refine then_n ?_
          refine wp_region_lit ?_
          refine sx_y HF HS (yl_add64 rfl rfl rfl (by omega)) rfl rfl ?_; clear HF ac; intro ac HF
          refine sx_y HF HS (yl_move rfl) rfl rfl ?_; clear HF ac; intro ac HF
          refine wpList_nil ?_
          refine then_n ?_
          refine ⟨_, ?_, i + 1, hi, ?_, rfl, HF.sub (by repeat (first | exact ag_nil | refine ag_cons rfl ?_)), HS⟩
          · omega
          · rw [List.take_add_one, List.take_add_one, htk, hx, hy, hxy]
      · have heq : l = r := by
          have hil : i = l.length := by omega
          rw [hil, List.take_length, hlr, List.take_length] at htk
          exact htk
        refine wpList_nil ?_
        refine then_n ?_
        refine wp_seq ?_
        refine cx_false HF rfl ?_
        refine wp_exit ?_
        refine then_x ?_
        refine then_x ?_
        refine blk_hit ?_
        refine then_n ?_
        refine wp_seq ?_
        refine wp_region_lit ?_
        refine sx_y HF HS (yl_assign rfl) rfl rfl ?_; clear HF ac; intro ac HF
        refine wpList_nil ?_
        refine then_n ?_
        refine wp_ret ?_
        exact rt1 rfl HF HS rfl ⟨by rw [decide_eq_true heq], HS.kp⟩

set_option maxRecDepth 100000 in
theorem same9_any (l r : List Hsh) (a b : Option Addr) (c e : Nat) (w0 : World) (hr : Rd w0 a l.length c 32 (hsc l)) (hs : Rd w0 b r.length e 32 (hsc r)) :
    Calls Tryd.prog 21 #[.slice a l.length c, .slice b r.length e] w0 fun e w' => e = .returned (.bool (decide (l = r))) ∧ Kp [] w0 w' := by
  refine calls_st (F := []) (args := [.slice a l.length c, .slice b r.length e]) Tryd.func21 rfl (n := 26) rfl rfl ?_
  intro ac w HF HS
  refine wp_seq ?_
  refine wp_region_lit ?_
  refine sx_y HF HS (yl_assign rfl) rfl rfl ?_; clear HF ac; intro ac HF
  refine wpList_nil ?_
  refine then_n ?_
  refine wp_seq ?_
  refine wp_seq ?_
  refine wp_region_lit ?_
  refine sx_y HF HS (yl_move rfl) rfl rfl ?_; clear HF ac; intro ac HF
  refine sx_y HF HS (yl_len_slice Tryd.underlying22 rfl) rfl rfl ?_; clear HF ac; intro ac HF
  refine sx_y HF HS (yl_move rfl) rfl rfl ?_; clear HF ac; intro ac HF
  refine sx_y HF HS (yl_len_slice Tryd.underlying22 rfl) rfl rfl ?_; clear HF ac; intro ac HF
  refine sx_dec HF HS (yl_neq rfl rfl rfl) rfl rfl ?_ ?_ <;> clear HF ac <;> intro h1x4 ac HF
  · have hne : ¬ l = r := fun h => by subst h; omega
    refine wpList_nil ?_
    refine then_n ?_
    refine cx_true HF rfl ?_
    refine wp_seq ?_
    refine wp_region_lit ?_
    refine sx_y HF HS (yl_assign rfl) rfl rfl ?_; clear HF ac; intro ac HF
    refine wpList_nil ?_
    refine then_n ?_
    refine wp_ret ?_
    refine then_r ?_
    exact rt1 rfl HF HS rfl ⟨by rw [decide_eq_false hne], HS.kp⟩
  · have hlr : l.length = r.length := by omega
    refine wpList_nil ?_
    refine then_n ?_
    refine cx_false HF rfl ?_
    refine wp_skip ?_
    refine then_n ?_
    refine wp_seq ?_
    refine wp_seq ?_
    refine wp_region_lit ?_
    refine sx_y HF HS (yl_move rfl) rfl rfl ?_; clear HF ac; intro ac HF
    refine sx_y HF HS (yl_len_slice Tryd.underlying22 rfl) rfl rfl ?_; clear HF ac; intro ac HF
    refine sx_y HF HS (yl_move rfl) rfl rfl ?_; clear HF ac; intro ac HF
    refine wpList_nil ?_
    refine then_n ?_
    refine wp_block ?_
    replace HF := HF.sub (m' := [(0, _), (1, _), (12, _), (13, _)]) (by repeat (first | exact ag_nil | refine ag_cons rfl ?_))
    refine cx_loop (m := [(0, _), (1, _), (12, _)]) (HF.sub (by repeat (first | exact ag_nil | refine ag_cons rfl ?_))) (fun m d ac w => ∃ i : Nat, i ≤ l.length ∧ l.take i = r.take i ∧ d = l.length - i ∧ Fr ([(13, .int .i64 (i : Int))] ++ m) 26 ac ∧ St [] w0 [] [] w) ?_ ?_
    · exact ⟨_, 0, Nat.zero_le _, rfl, rfl, HF.sub (by repeat (first | exact ag_nil | refine ag_cons rfl ?_)), HS⟩
    · clear HF HS ac w
      rintro d ac w ⟨i, hi0, htk, rfl, HF, HS⟩
      refine wp_seq ?_
      refine wp_region_lit ?_
      refine sx_dec HF HS (yl_lss rfl rfl rfl) rfl rfl ?_ ?_ <;> clear HF ac <;> intro h4x0 ac HF
      · have hlm := hr.lim
        have hlm2 := hs.lim
        have hi : i + 1 ≤ l.length := by omega
        obtain ⟨x, hx⟩ : ∃ x, l[i]? = some x := ⟨_, List.getElem?_eq_getElem (by omega)⟩
        obtain ⟨y, hy⟩ : ∃ y, r[i]? = some y := ⟨_, List.getElem?_eq_getElem (by omega)⟩
        refine wpList_nil ?_
        refine then_n ?_
        refine wp_seq ?_
        refine cx_true HF rfl ?_
        refine wp_skip ?_
        refine then_n ?_
        refine wp_seq ?_
        refine wp_block ?_
        refine wp_seq ?_
        refine wp_region_lit ?_
        refine sx_y HF HS (yl_move rfl) rfl rfl ?_; clear HF ac; intro ac HF
        refine sx_y HF HS (yl_assign rfl) rfl rfl ?_; clear HF ac; intro ac HF
        refine wpList_nil ?_
        refine then_n ?_
        refine wp_seq ?_
        refine dx_region 9 (by kernel_rfl) HS.drew (fun _ h => h) ?_; clear HS; intro w HS
        have HH := HS
        refine dx_p (i := 0) HF rfl (by kernel_rfl) (by kernel_rfl) (by kernel_rfl) (by decide) (fun _ _ _ h => h) (fun _ => HH) (yl_move rfl) rfl rfl ?_; clear HF ac; intro ac HF
        refine dx_p (i := 1) HF rfl (by kernel_rfl) (by kernel_rfl) (by kernel_rfl) (by decide) (fun _ _ _ h => h) (fun _ => HH) (yl_move rfl) rfl rfl ?_; clear HF ac; intro ac HF
        refine dx_p (i := 2) HF rfl (by kernel_rfl) (by kernel_rfl) (by kernel_rfl) (by decide) (fun _ _ _ h => h) (fun _ => HH) (ix_sl (k := i) Tryd.underlying22 sz33 rfl rfl (by omega) hr.nil0) rfl rfl ?_; clear HF ac; intro ac HF
        refine dx_k (i := 3) HF rfl (by kernel_rfl) (by kernel_rfl) (by kernel_rfl) (by kernel_rfl) (by kernel_rfl) (fun _ _ _ h => h) HH (ld_elH ag33 rfl hx (fun w h => hr.below h.kp)) rfl rfl ?_; clear HF ac; intro ac HF
        refine dx_p (i := 4) HF rfl (by kernel_rfl) (by kernel_rfl) (by kernel_rfl) (by decide) (fun _ _ _ h => h) (fun _ => HH) (yl_move rfl) rfl rfl ?_; clear HF ac; intro ac HF
        refine dx_p (i := 5) HF rfl (by kernel_rfl) (by kernel_rfl) (by kernel_rfl) (by decide) (fun _ _ _ h => h) (fun _ => HH) (yl_move rfl) rfl rfl ?_; clear HF ac; intro ac HF
        refine dx_p (i := 6) HF rfl (by kernel_rfl) (by kernel_rfl) (by kernel_rfl) (by decide) (fun _ _ _ h => h) (fun _ => HH) (ix_sl (k := i) Tryd.underlying22 sz33 rfl rfl (by omega) hs.nil0) rfl rfl ?_; clear HF ac; intro ac HF
        refine dx_k (i := 7) HF rfl (by kernel_rfl) (by kernel_rfl) (by kernel_rfl) (by kernel_rfl) (by kernel_rfl) (fun _ _ _ h => h) HH (ld_elH ag33 rfl hy (fun w h => hs.below h.kp)) rfl rfl ?_; clear HF ac; intro ac HF
        refine dx_p (i := 8) HF rfl (by kernel_rfl) (by kernel_rfl) (by kernel_rfl) (by decide) (fun _ _ _ h => h) (fun _ => HH) (Tryd.yl_neH rfl rfl rfl) rfl rfl ?_; clear HF ac; intro ac HF
        refine dx_done (by kernel_rfl) ?_
        clear HH
        refine then_n ?_
        refine cx_split HF rfl ?_ ?_ <;> intro hc6
        · have hxy : ¬ x = y := of_decide_eq_true hc6
          have hne : ¬ l = r := fun h => by subst h; exact hxy (Option.some.inj (hx.symm.trans hy))
          refine wp_seq ?_
          refine wp_region_lit ?_
          refine sx_y HF HS (yl_assign rfl) rfl rfl ?_; clear HF ac; intro ac HF
          refine wpList_nil ?_
          refine then_n ?_
          refine wp_ret ?_
          refine blk_r ?_
          refine then_r ?_
          refine then_r ?_
          refine blk_r ?_
          refine then_r ?_
          exact rt1 rfl HF HS rfl ⟨by rw [decide_eq_false hne], HS.kp⟩
        · have hxy : x = y := Decidable.not_not.1 (of_decide_eq_false hc6)
          refine wp_skip ?_
          refine blk_n ?_
          refine then_n ?_
          refine wp_region_lit ?_
          refine sx_y HF HS (yl_add64 rfl rfl rfl (by omega)) rfl rfl ?_; clear HF ac; intro ac HF
          refine sx_y HF HS (yl_move rfl) rfl rfl ?_; clear HF ac; intro ac HF
          refine wpList_nil ?_
          refine then_n ?_
          refine ⟨_, ?_, i + 1, hi, ?_, rfl, HF.sub (by repeat (first | exact ag_nil | refine ag_cons rfl ?_)), HS⟩
          · omega
          · rw [List.take_add_one, List.take_add_one, htk, hx, hy, hxy]
      · have heq : l = r := by
          have hil : i = l.length := by omega
          rw [hil, List.take_length, hlr, List.take_length] at htk
          exact htk
        refine wpList_nil ?_
        refine then_n ?_
        refine wp_seq ?_
        refine cx_false HF rfl ?_
        refine wp_exit ?_
        refine then_x ?_
        refine then_x ?_
        refine blk_hit ?_
        refine then_n ?_
        refine wp_seq ?_
        refine wp_region_lit ?_
        refine sx_y HF HS (yl_assign rfl) rfl rfl ?_; clear HF ac; intro ac HF
        refine wpList_nil ?_
        refine then_n ?_
        refine wp_ret ?_
        exact rt1 rfl HF HS rfl ⟨by rw [decide_eq_true heq], HS.kp⟩

set_option maxRecDepth 100000 in
theorem equal9_n (g n : Nat) (ps : List Hsh) (a : Option Addr) (c : Nat) (g2 n2 : Nat) (qs : List Hsh) (b : Option Addr) (e : Nat) (w0 : World) (h : RgA w0 g n ps a c) (h2 : RgA w0 g2 n2 qs b e) (hne : g ≠ g2) (hn : n ≠ n2) :
    Calls Tryd.prog 29 #[.pointer (some ⟨g, 0, none⟩), .pointer (some ⟨g2, 0, none⟩)] w0 fun e w' => e = .returned (.bool false) ∧ Kp [] w0 w' := by
  have HK : ∀ w, St [g, g2] w0 [⟨g, sgA (rgS n a ps.length c), 101⟩, ⟨g2, sgA (rgS n2 b qs.length e), 101⟩] [] w → Kp [] w0 w := fun w HS => kp_own HS (fun x hx => by
      simp only [List.mem_cons, List.not_mem_nil, or_false] at hx
      rcases hx with rfl | rfl
      · exact ⟨_, List.mem_cons_self, rfl, h.b⟩
      · exact ⟨_, List.mem_cons_of_mem _ List.mem_cons_self, rfl, h2.b⟩)
  refine calls_stL (args := [.pointer (some ⟨g, 0, none⟩), .pointer (some ⟨g2, 0, none⟩)]) (St.ofBlk2 h.b h2.b hne) Tryd.func29 rfl (n := 25) rfl rfl ?_
  intro ac w HF HS
  refine wp_seq ?_
  refine wp_region_lit ?_
  refine sx_y HF HS (yl_assign rfl) rfl rfl ?_; clear HF ac; intro ac HF
  refine wpList_nil ?_
  refine then_n ?_
  refine wp_seq ?_
  refine dx_region 21 (by kernel_rfl) HS.drew (fun _ h => h) ?_; clear HS; intro w HS
  have HH := HS
  refine dx_p (i := 0) HF rfl (by kernel_rfl) (by kernel_rfl) (by kernel_rfl) (by decide) (fun _ _ _ h => h) (fun _ => HH) (yl_move rfl) rfl rfl ?_; clear HF ac; intro ac HF
  refine dx_p (i := 1) HF rfl (by kernel_rfl) (by kernel_rfl) (by kernel_rfl) (by decide) (fun _ _ _ h => h) (fun _ => HH) (yl_nilCheck rfl) rfl rfl ?_; clear HF ac; intro ac HF
  refine dx_p (i := 2) HF rfl (by kernel_rfl) (by kernel_rfl) (by kernel_rfl) (by decide) (fun _ _ _ h => h) (fun _ => HH) (fa_st fd101x0 rfl) rfl rfl ?_; clear HF ac; intro ac HF
  refine dx_k (i := 3) HF rfl (by kernel_rfl) (by kernel_rfl) (by kernel_rfl) (by kernel_rfl) (by kernel_rfl) (fun _ _ _ h => h) HH (ld_sc sc3 rfl rfl rfl) rfl rfl ?_; clear HF ac; intro ac HF
  refine dx_p (i := 4) HF rfl (by kernel_rfl) (by kernel_rfl) (by kernel_rfl) (by decide) (fun _ _ _ h => h) (fun _ => HH) (yl_move rfl) rfl rfl ?_; clear HF ac; intro ac HF
  refine dx_p (i := 5) HF rfl (by kernel_rfl) (by kernel_rfl) (by kernel_rfl) (by decide) (fun _ _ _ h => h) (fun _ => HH) (yl_nilCheck rfl) rfl rfl ?_; clear HF ac; intro ac HF
  refine dx_p (i := 6) HF rfl (by kernel_rfl) (by kernel_rfl) (by kernel_rfl) (by decide) (fun _ _ _ h => h) (fun _ => HH) (fa_st fd101x0 rfl) rfl rfl ?_; clear HF ac; intro ac HF
  refine dx_k (i := 7) HF rfl (by kernel_rfl) (by kernel_rfl) (by kernel_rfl) (by kernel_rfl) (by kernel_rfl) (fun _ _ _ h => h) HH (ld_sc sc3 rfl rfl rfl) rfl rfl ?_; clear HF ac; intro ac HF
  refine dx_p (i := 8) HF rfl (by kernel_rfl) (by kernel_rfl) (by kernel_rfl) (by decide) (fun _ _ _ h => h) (fun _ => HH) (yl_eql rfl rfl (decide_eq_false (by omega))) rfl rfl ?_; clear HF ac; intro ac HF
  refine dx_p (i := 9) HF rfl (by kernel_rfl) (by kernel_rfl) (by kernel_rfl) (by decide) (fun _ _ _ h => h) (fun _ => HH) (yl_move rfl) rfl rfl ?_; clear HF ac; intro ac HF
  refine dx_off (i := 10) HF rfl (by kernel_rfl) (by kernel_rfl) (by kernel_rfl) (by decide) (fun _ _ _ h => h) (fun _ => HH) rfl rfl ?_; clear HF ac; intro ac HF
  refine dx_off (i := 11) HF rfl (by kernel_rfl) (by kernel_rfl) (by kernel_rfl) (by decide) (fun _ _ _ h => h) (fun _ => HH) rfl rfl ?_; clear HF ac; intro ac HF
  refine dx_off (i := 12) HF rfl (by kernel_rfl) (by kernel_rfl) (by kernel_rfl) (by decide) (fun _ _ _ h => h) (fun _ => HH) rfl rfl ?_; clear HF ac; intro ac HF
  refine dx_off (i := 13) HF rfl (by kernel_rfl) (by kernel_rfl) (by kernel_rfl) (by decide) (fun _ _ _ h => h) (fun _ => HH) rfl rfl ?_; clear HF ac; intro ac HF
  refine dx_off (i := 14) HF rfl (by kernel_rfl) (by kernel_rfl) (by kernel_rfl) (by decide) (fun _ _ _ h => h) (fun _ => HH) rfl rfl ?_; clear HF ac; intro ac HF
  refine dx_off (i := 15) HF rfl (by kernel_rfl) (by kernel_rfl) (by kernel_rfl) (by decide) (fun _ _ _ h => h) (fun _ => HH) rfl rfl ?_; clear HF ac; intro ac HF
  refine dx_off (i := 16) HF rfl (by kernel_rfl) (by kernel_rfl) (by kernel_rfl) (by decide) (fun _ _ _ h => h) (fun _ => HH) rfl rfl ?_; clear HF ac; intro ac HF
  refine dx_off (i := 17) HF rfl (by kernel_rfl) (by kernel_rfl) (by kernel_rfl) (by decide) (fun _ _ _ h => h) (fun _ => HH) rfl rfl ?_; clear HF ac; intro ac HF
  refine dx_off (i := 18) HF rfl (by kernel_rfl) (by kernel_rfl) (by kernel_rfl) (by decide) (fun _ _ _ h => h) (fun _ => HH) rfl rfl ?_; clear HF ac; intro ac HF
  refine dx_p (i := 19) HF rfl (by kernel_rfl) (by kernel_rfl) (by kernel_rfl) (by decide) (fun _ _ _ h => h) (fun _ => HH) (yl_pick (b := false) rfl rfl) rfl rfl ?_; clear HF ac; intro ac HF
  refine dx_p (i := 20) HF rfl (by kernel_rfl) (by kernel_rfl) (by kernel_rfl) (by decide) (fun _ _ _ h => h) (fun _ => HH) (yl_assign rfl) rfl rfl ?_; clear HF ac; intro ac HF
  refine dx_done (by kernel_rfl) ?_
  clear HH
  refine then_n ?_
  refine wp_ret ?_
  exact rt1 rfl HF HS rfl ⟨rfl, HK w HS⟩

set_option maxRecDepth 100000 in
theorem equal9_p (g n : Nat) (ps : List Hsh) (a : Option Addr) (c : Nat) (g2 n2 : Nat) (qs : List Hsh) (b : Option Addr) (e : Nat) (w0 : World) (h : RgA w0 g n ps a c) (h2 : RgA w0 g2 n2 qs b e) (hne : g ≠ g2) (hn : n = n2) :
    Calls Tryd.prog 29 #[.pointer (some ⟨g, 0, none⟩), .pointer (some ⟨g2, 0, none⟩)] w0 fun e w' => e = .returned (.bool (decide (ps = qs))) ∧ Kp [] w0 w' := by
  have HK : ∀ w, St [g, g2] w0 [⟨g, sgA (rgS n a ps.length c), 101⟩, ⟨g2, sgA (rgS n2 b qs.length e), 101⟩] [] w → Kp [] w0 w := fun w HS => kp_own HS (fun x hx => by
      simp only [List.mem_cons, List.not_mem_nil, or_false] at hx
      rcases hx with rfl | rfl
      · exact ⟨_, List.mem_cons_self, rfl, h.b⟩
      · exact ⟨_, List.mem_cons_of_mem _ List.mem_cons_self, rfl, h2.b⟩)
  refine calls_stL (args := [.pointer (some ⟨g, 0, none⟩), .pointer (some ⟨g2, 0, none⟩)]) (St.ofBlk2 h.b h2.b hne) Tryd.func29 rfl (n := 25) rfl rfl ?_
  intro ac w HF HS
  refine wp_seq ?_
  refine wp_region_lit ?_
  refine sx_y HF HS (yl_assign rfl) rfl rfl ?_; clear HF ac; intro ac HF
  refine wpList_nil ?_
  refine then_n ?_
  refine wp_seq ?_
  refine dx_region 21 (by kernel_rfl) HS.drew (fun _ h => h) ?_; clear HS; intro w HS
  have HH := HS
  refine dx_p (i := 0) HF rfl (by kernel_rfl) (by kernel_rfl) (by kernel_rfl) (by decide) (fun _ _ _ h => h) (fun _ => HH) (yl_move rfl) rfl rfl ?_; clear HF ac; intro ac HF
  refine dx_p (i := 1) HF rfl (by kernel_rfl) (by kernel_rfl) (by kernel_rfl) (by decide) (fun _ _ _ h => h) (fun _ => HH) (yl_nilCheck rfl) rfl rfl ?_; clear HF ac; intro ac HF
  refine dx_p (i := 2) HF rfl (by kernel_rfl) (by kernel_rfl) (by kernel_rfl) (by decide) (fun _ _ _ h => h) (fun _ => HH) (fa_st fd101x0 rfl) rfl rfl ?_; clear HF ac; intro ac HF
  refine dx_k (i := 3) HF rfl (by kernel_rfl) (by kernel_rfl) (by kernel_rfl) (by kernel_rfl) (by kernel_rfl) (fun _ _ _ h => h) HH (ld_sc sc3 rfl rfl rfl) rfl rfl ?_; clear HF ac; intro ac HF
  refine dx_p (i := 4) HF rfl (by kernel_rfl) (by kernel_rfl) (by kernel_rfl) (by decide) (fun _ _ _ h => h) (fun _ => HH) (yl_move rfl) rfl rfl ?_; clear HF ac; intro ac HF
  refine dx_p (i := 5) HF rfl (by kernel_rfl) (by kernel_rfl) (by kernel_rfl) (by decide) (fun _ _ _ h => h) (fun _ => HH) (yl_nilCheck rfl) rfl rfl ?_; clear HF ac; intro ac HF
  refine dx_p (i := 6) HF rfl (by kernel_rfl) (by kernel_rfl) (by kernel_rfl) (by decide) (fun _ _ _ h => h) (fun _ => HH) (fa_st fd101x0 rfl) rfl rfl ?_; clear HF ac; intro ac HF
  refine dx_k (i := 7) HF rfl (by kernel_rfl) (by kernel_rfl) (by kernel_rfl) (by kernel_rfl) (by kernel_rfl) (fun _ _ _ h => h) HH (ld_sc sc3 rfl rfl rfl) rfl rfl ?_; clear HF ac; intro ac HF
  refine dx_p (i := 8) HF rfl (by kernel_rfl) (by kernel_rfl) (by kernel_rfl) (by decide) (fun _ _ _ h => h) (fun _ => HH) (yl_eql rfl rfl (decide_eq_true (by omega))) rfl rfl ?_; clear HF ac; intro ac HF
  refine dx_p (i := 9) HF rfl (by kernel_rfl) (by kernel_rfl) (by kernel_rfl) (by decide) (fun _ _ _ h => h) (fun _ => HH) (yl_move rfl) rfl rfl ?_; clear HF ac; intro ac HF
  refine dx_p (i := 10) HF rfl (by kernel_rfl) (by kernel_rfl) (by kernel_rfl) (by decide) (fun _ _ _ h => h) (fun _ => HH) (yl_move rfl) rfl rfl ?_; clear HF ac; intro ac HF
  refine dx_p (i := 11) HF rfl (by kernel_rfl) (by kernel_rfl) (by kernel_rfl) (by decide) (fun _ _ _ h => h) (fun _ => HH) (yl_nilCheck rfl) rfl rfl ?_; clear HF ac; intro ac HF
  refine dx_p (i := 12) HF rfl (by kernel_rfl) (by kernel_rfl) (by kernel_rfl) (by decide) (fun _ _ _ h => h) (fun _ => HH) (fa_st fd101x1 rfl) rfl rfl ?_; clear HF ac; intro ac HF
  refine dx_k (i := 13) HF rfl (by kernel_rfl) (by kernel_rfl) (by kernel_rfl) (by kernel_rfl) (by kernel_rfl) (fun _ _ _ h => h) HH (ld_sc sc22 rfl rfl rfl) rfl rfl ?_; clear HF ac; intro ac HF
  refine dx_p (i := 14) HF rfl (by kernel_rfl) (by kernel_rfl) (by kernel_rfl) (by decide) (fun _ _ _ h => h) (fun _ => HH) (yl_move rfl) rfl rfl ?_; clear HF ac; intro ac HF
  refine dx_p (i := 15) HF rfl (by kernel_rfl) (by kernel_rfl) (by kernel_rfl) (by decide) (fun _ _ _ h => h) (fun _ => HH) (yl_nilCheck rfl) rfl rfl ?_; clear HF ac; intro ac HF
  refine dx_p (i := 16) HF rfl (by kernel_rfl) (by kernel_rfl) (by kernel_rfl) (by decide) (fun _ _ _ h => h) (fun _ => HH) (fa_st fd101x1 rfl) rfl rfl ?_; clear HF ac; intro ac HF
  refine dx_k (i := 17) HF rfl (by kernel_rfl) (by kernel_rfl) (by kernel_rfl) (by kernel_rfl) (by kernel_rfl) (fun _ _ _ h => h) HH (ld_sc sc22 rfl rfl rfl) rfl rfl ?_; clear HF ac; intro ac HF
  refine dx_one (i := 18) (by kernel_rfl) ?_
  refine op_call (i := 18) HF rfl Tryd.func82 (by kernel_rfl) (by kernel_rfl) (evs_cons rfl (evs_cons rfl evs_nil)) (equalH_any ps qs a b c e w (h.rd.below (HK w HS)) (h2.rd.below (HK w HS))) rfl rfl ?_; clear HF ac
  rintro _ w ⟨rfl, k1⟩
  refine ⟨_, rfl, fun ac HF => ?_⟩
  replace HH := HH.call k1
  replace HS := HS.call k1
  clear k1
  refine ⟨fun _ => HH, ?_⟩
  refine dx_p (i := 19) HF rfl (by kernel_rfl) (by kernel_rfl) (by kernel_rfl) (by decide) (fun _ _ _ h => h) (fun _ => HH) (yl_pick (b := true) rfl rfl) rfl rfl ?_; clear HF ac; intro ac HF
  refine dx_p (i := 20) HF rfl (by kernel_rfl) (by kernel_rfl) (by kernel_rfl) (by decide) (fun _ _ _ h => h) (fun _ => HH) (yl_assign rfl) rfl rfl ?_; clear HF ac; intro ac HF
  refine dx_done (by kernel_rfl) ?_
  clear HH
  refine then_n ?_
  refine wp_ret ?_
  exact rt1 rfl HF HS rfl ⟨rfl, HK w HS⟩

theorem equal9_any (g n : Nat) (ps : List Hsh) (a : Option Addr) (c : Nat) (g2 n2 : Nat) (qs : List Hsh) (b : Option Addr) (e : Nat) (w0 : World) (h : RgA w0 g n ps a c) (h2 : RgA w0 g2 n2 qs b e) (hne : g ≠ g2) :
    Calls Tryd.prog 29 #[.pointer (some ⟨g, 0, none⟩), .pointer (some ⟨g2, 0, none⟩)] w0 fun e w' => e = .returned (.bool (decide (n = n2 ∧ ps = qs))) ∧ Kp [] w0 w' := by
  by_cases hn : n = n2
  · have := equal9_p g n ps a c g2 n2 qs b e w0 h h2 hne hn
    rw [show decide (n = n2 ∧ ps = qs) = decide (ps = qs) by simp [hn]]
    exact this
  · have := equal9_n g n ps a c g2 n2 qs b e w0 h h2 hne hn
    rw [show decide (n = n2 ∧ ps = qs) = false by simp [hn]]
    exact this

end Go.Proofs.YtalnkhgonfcabaaDoor
