/-
  CompactGrows: its walk. (Printed by sx_cmpgrows.py.)
-/
import Derived.Test.YtalnkhgonfcabaaDoorCmp6
namespace Go.Proofs.YtalnkhgonfcabaaDoor.compactGrows
open Go.RowKit Go.Proofs.YtalnkhgonfcabaaDoor

/-! ### Types -/
namespace CmpG
theorem ag31 : AgT Tryd.prog 31 2 := AgT.mk' Tryd.underlying31 rfl (by kernel_rfl)
theorem sc3 : ScT Tryd.prog 3 := ScT.mk' Tryd.underlying3 rfl (by kernel_rfl)
theorem sl22 : SlT Tryd.prog 22 33 Tryd.t33 (hv zeroH) 32 32 := ⟨Tryd.underlying22, by kernel_rfl, by kernel_rfl, rfl, rfl, hvA_size _, by decide⟩
theorem sl23 : SlT Tryd.prog 23 3 Tryd.t3 (.int .i64 0) 1 8 := ⟨Tryd.underlying23, by kernel_rfl, by kernel_rfl, rfl, rfl, rfl, by decide⟩
theorem sz3 : (Tryd.prog.info? 3).map (·.size) = some 1 := by kernel_rfl
theorem sz31 : (Tryd.prog.info? 31).map (·.size) = some 2 := by kernel_rfl
theorem sz33 : (Tryd.prog.info? 33).map (·.size) = some 32 := by kernel_rfl
theorem ze31 : ZeS Tryd.prog 31 [(1, .int .i64 0), (1, .int .i64 0)] := ⟨.agg _, ZeT.mk' (by kernel_rfl), rfl⟩
end CmpG
open Go.Proofs.YtalnkhgonfcabaaDoor.compactGrows.CmpG

theorem pkF_in (n : Nat) : ∀ (f fr r : Nat), r ≤ f → fr + r = n → n < 9223372036854775808 → ∀ q ∈ pkF f fr r, q.1 ≤ q.2 ∧ q.2 ≤ n
  | 0, fr, r, _, _, _ => fun q hq => by cases hq
  | f + 1, fr, r, h1, h2, hb => fun q hq => by
    rw [pkF] at hq
    by_cases h0 : r = 0
    · rw [if_pos h0] at hq; cases hq
    · obtain ⟨h3, h4, _⟩ := hp_spec r (by omega) (by omega)
      rw [if_neg h0] at hq
      rcases List.mem_cons.1 hq with rfl | hq
      · exact ⟨by simp, by simp; omega⟩
      · exact pkF_in n f (fr + hp r) (r - hp r) (by omega) (by omega) hb q hq
theorem _root_.Go.Proofs.YtalnkhgonfcabaaDoor.St.rswap {F : List Nat} {w0 w : World} {L : List Bk} {R : List Rw} {r q : Rw} (h : St F w0 L (r :: q :: R) w) : St F w0 L (q :: r :: R) w := by
  have hi : (ids L (q :: r :: R)).Perm (ids L (r :: q :: R)) := by
    simp only [ids, List.flatMap_cons]
    refine List.Perm.append_left _ ?_
    rw [← List.append_assoc, ← List.append_assoc]
    exact List.Perm.append_right _ List.perm_append_comm
  exact ⟨h.kp, h.blk, fun x hx => h.row x (by simp only [List.mem_cons] at hx ⊢; rcases hx with h1 | h1 | h1; exact .inr (.inl h1); exact .inl h1; exact .inr (.inr h1)), fun x hx => h.new x (hi.subset hx), hi.nodup_iff.2 h.nd⟩

set_option maxRecDepth 100000 in
set_option maxHeartbeats 1000000 in
theorem walk (l : List Hsh) (parts : List Int) (a b : Option Addr) (c e : Nat) (w0 : World) (hr : Rd w0 a l.length c 32 (hsc l)) (hp : Rd w0 b parts.length e 1 (ivs parts)) (hT : Tab w0) (hL : Laid w0) (h2 : 4 ≤ w0.heap.size) :
    Calls Tryd.prog 3 #[.slice a l.length c, .slice b parts.length e] w0 fun e w' => e = .returned (.bool true) ∧ Kp [] w0 w' := by
  refine calls_st (F := []) (args := [.slice a l.length c, .slice b parts.length e]) Tryd.func3 rfl (n := 104) rfl rfl ?_
  intro ac w HF HS
  refine wp_seq ?_
  refine wp_region_lit ?_
  refine sx_y HF HS (yl_assign rfl) rfl rfl ?_; clear HF ac; intro ac HF
  refine wpList_nil ?_
  refine then_n ?_
  refine wp_seq ?_
  refine wp_seq ?_
  refine wp_region_lit ?_
  refine sx_y HF HS (yl_move rfl) rfl rfl ?_; clear HF ac; intro ac HF
  refine sx_y HF HS (yl_len_slice Tryd.underlying22 rfl) rfl rfl ?_; clear HF ac; intro ac HF
  refine sx_dec HF HS (yl_gtr rfl rfl rfl) rfl rfl ?_ ?_ <;> clear HF ac <;> intro h1x2 ac HF
  · refine sx_y HF HS (yl_move rfl) rfl rfl ?_; clear HF ac; intro ac HF
    refine sx_off HF rfl rfl ?_; clear HF ac; intro ac HF
    refine sx_off HF rfl rfl ?_; clear HF ac; intro ac HF
    refine sx_off HF rfl rfl ?_; clear HF ac; intro ac HF
    refine sx_y HF HS (yl_pick (b := true) rfl rfl) rfl rfl ?_; clear HF ac; intro ac HF
    refine wpList_nil ?_
    refine then_n ?_
    refine cx_true HF rfl ?_
    refine wp_seq ?_
    refine wp_region_lit ?_
    refine sx_call HF Tryd.func15 (by kernel_rfl) (by kernel_rfl) evs_nil (awake9_any w (hT.below HS.kp) (hL.below HS.kp) (Nat.le_trans h2 HS.kp.size)) rfl rfl ?_; clear HF ac
    rintro _ w ⟨rfl, k1⟩
    refine ⟨_, rfl, fun ac HF => ?_⟩
    replace HS := HS.call k1
    clear k1
    refine sx_y HF HS (yl_assign rfl) rfl rfl ?_; clear HF ac; intro ac HF
    refine wpList_nil ?_
    refine then_n ?_
    refine wp_ret ?_
    refine then_r ?_
    exact rt1 rfl HF HS rfl ⟨rfl, HS.kp⟩
  · refine sx_y HF HS (yl_move rfl) rfl rfl ?_; clear HF ac; intro ac HF
    refine sx_y HF HS (yl_move rfl) rfl rfl ?_; clear HF ac; intro ac HF
    refine sx_y HF HS (yl_len_slice Tryd.underlying23 rfl) rfl rfl ?_; clear HF ac; intro ac HF
    refine sx_dec HF HS (yl_gtr rfl rfl rfl) rfl rfl ?_ ?_ <;> clear HF ac <;> intro h1x6 ac HF
    · refine sx_y HF HS (yl_pick (b := false) rfl rfl) rfl rfl ?_; clear HF ac; intro ac HF
      refine wpList_nil ?_
      refine then_n ?_
      refine cx_true HF rfl ?_
      refine wp_seq ?_
      refine wp_region_lit ?_
      refine sx_call HF Tryd.func15 (by kernel_rfl) (by kernel_rfl) evs_nil (awake9_any w (hT.below HS.kp) (hL.below HS.kp) (Nat.le_trans h2 HS.kp.size)) rfl rfl ?_; clear HF ac
      rintro _ w ⟨rfl, k1⟩
      refine ⟨_, rfl, fun ac HF => ?_⟩
      replace HS := HS.call k1
      clear k1
      refine sx_y HF HS (yl_assign rfl) rfl rfl ?_; clear HF ac; intro ac HF
      refine wpList_nil ?_
      refine then_n ?_
      refine wp_ret ?_
      refine then_r ?_
      exact rt1 rfl HF HS rfl ⟨rfl, HS.kp⟩
    · have hll : l.length ≤ 70 := by omega
      have hpl : parts.length ≤ 70 := by omega
      refine sx_y HF HS (yl_pick (b := false) rfl rfl) rfl rfl ?_; clear HF ac; intro ac HF
      refine wpList_nil ?_
      refine then_n ?_
      refine cx_false HF rfl ?_
      refine wp_skip ?_
      refine then_n ?_
      refine wp_seq ?_
      refine wp_region_lit ?_
      refine sx_call HF Tryd.func16 (by kernel_rfl) (by kernel_rfl) evs_nil (new9_any w) rfl rfl ?_; clear HF ac
      rintro _ w ⟨g5, rfl, k1⟩
      refine ⟨_, rfl, fun ac HF => ?_⟩
      replace HS : St [] w0 [⟨g5, sgA (rgS ((0 : Nat) : Int) none (peaksOf (l.take 0)).length 0), 101⟩] [⟨33, 32, none, (peaksOf (l.take 0)).length, 0, hsc (peaksOf (l.take 0))⟩] w := HS.join k1
      clear k1
      refine sx_y HF HS (yl_assign rfl) rfl rfl ?_; clear HF ac; intro ac HF
      refine wpList_nil ?_
      refine then_n ?_
      refine wp_seq ?_
      refine wp_seq ?_
      refine wp_region_lit ?_
      refine sx_y HF HS (yl_move rfl) rfl rfl ?_; clear HF ac; intro ac HF
      refine sx_y HF HS (yl_eqPtr Tryd.underlying25 rfl rfl (by exact rfl)) rfl rfl ?_; clear HF ac; intro ac HF
      refine wpList_nil ?_
      refine then_n ?_
      refine cx_false HF rfl ?_
      refine wp_skip ?_
      refine then_n ?_
      refine wp_seq ?_
      refine wp_region_lit ?_
      refine sx_y HF HS (yl_assign rfl) rfl rfl ?_; clear HF ac; intro ac HF
      refine wpList_nil ?_
      refine then_n ?_
      refine wp_seq ?_
      refine wp_seq ?_
      refine wp_region_lit ?_
      refine sx_ef HF (ef_lit (n := 0) HS sl23 (parts := #[]) evs_nil rfl rfl (s := []) rfl (by simp)) rfl rfl ?_; clear HF HS ac; rintro _ w ac ⟨g24, rfl, HS⟩ HF
      replace HS := HS.toRow (n := 0) (size := 1) (ys := []) rfl (by decide) rfl
      refine sx_y HF HS (yl_move rfl) rfl rfl ?_; clear HF ac; intro ac HF
      refine sx_ef HF (ef_append (n' := parts.length) (ys := ivs parts) HS sl23 rfl rfl (hp.below HS.kp) (ivs_one _) (Nat.zero_add _) (by omega) (List.nil_append _)) rfl rfl ?_; clear HF HS ac; rintro _ w ac ⟨a26, c26, rfl, HS⟩ HF
      refine sx_y HF HS (yl_move rfl) rfl rfl ?_; clear HF ac; intro ac HF
      refine sx_y HF HS (yl_len_slice Tryd.underlying22 rfl) rfl rfl ?_; clear HF ac; intro ac HF
      refine sx_ef HF (ef_lit (n := 1) HS sl23 (parts := #[(0, .tmp 28)]) (evs_cons rfl evs_nil) rfl rfl (s := [(1, _)]) rfl (by simp)) rfl rfl ?_; clear HF HS ac; rintro _ w ac ⟨g29, rfl, HS⟩ HF
      refine sx_ef HF (ef_append1 (n' := (parts ++ [(l.length : Int)]).length) (ys := ivs (parts ++ [(l.length : Int)])) HS sl23 rfl rfl rfl (by simp) (by simp; omega) (by rw [ivs_app]; rfl)) rfl rfl ?_; clear HF HS ac; rintro _ w ac ⟨a30, c30, rfl, HS⟩ HF
      refine sx_y HF HS (yl_len_slice Tryd.underlying23 rfl) rfl rfl ?_; clear HF ac; intro ac HF
      refine sx_y HF HS (yl_move rfl) rfl rfl ?_; clear HF ac; intro ac HF
      refine wpList_nil ?_
      refine then_n ?_
      refine wp_block ?_
      replace HS : St [] w0 [⟨g5, sgA (rgS ((0 : Nat) : Int) none (peaksOf (l.take 0)).length 0), 101⟩] [⟨33, 32, none, (peaksOf (l.take 0)).length, 0, hsc (peaksOf (l.take 0))⟩, ⟨3, 1, a30, (parts ++ [(l.length : Int)]).length, c30, ivs (parts ++ [(l.length : Int)])⟩] w := St.rswap HS.d1
      obtain ⟨ns, hns⟩ : ∃ x, x = parts ++ [(l.length : Int)] := ⟨_, rfl⟩
      rw [← hns] at HS HF
      have hnl : ns.length ≤ 71 := by rw [hns]; simp; omega
      replace HF := HF.sub (m' := [(0, _), (5, _), (30, _), (31, _), (32, _), (6, _)]) (by repeat (first | exact ag_nil | refine ag_cons rfl ?_))
      refine cx_loop (m := [(0, _), (5, _), (30, _), (31, _)]) (HF.sub (by repeat (first | exact ag_nil | refine ag_cons rfl ?_))) (fun m d ac w => ∃ (i at1 : Nat) (ar : Option Addr) (cr : Nat), i ≤ ns.length ∧ at1 ≤ l.length ∧ d = ns.length - i ∧ Fr ([(32, .int .i64 (i : Int)), (6, .int .i64 (at1 : Int))] ++ m) 104 ac ∧ St [] w0 [⟨g5, sgA (rgS ((at1 : Nat) : Int) ar (peaksOf (l.take at1)).length cr), 101⟩] [⟨33, 32, ar, (peaksOf (l.take at1)).length, cr, hsc (peaksOf (l.take at1))⟩, ⟨3, 1, a30, ns.length, c30, ivs ns⟩] w) ?_ ?_
      · exact ⟨_, 0, 0, none, 0, Nat.zero_le _, Nat.zero_le _, rfl, HF.sub (by repeat (first | exact ag_nil | refine ag_cons rfl ?_)), HS⟩
      · clear HF HS ac w
        rintro d ac w ⟨i, at1, ar, cr, hi0, hat, rfl, HF, HS⟩
        refine wp_seq ?_
        refine wp_region_lit ?_
        refine sx_dec HF HS (yl_lss rfl rfl rfl) rfl rfl ?_ ?_ <;> clear HF ac <;> intro h8x0 ac HF
        · have hi : i + 1 ≤ ns.length := by omega
          have hlm := hr.lim
          obtain ⟨v, hv⟩ : ∃ v, ns[i]? = some v := ⟨_, List.getElem?_eq_getElem (by omega)⟩
          have hbv : (ivs ns)[i]? = some (.int .i64 v) := by rw [ivs, List.getElem?_map, hv]; rfl
          obtain ⟨k, hk, hkl⟩ : ∃ k : Nat, (if ((l.length - at1 : Nat) : Int) < (if v < 0 then 0 else v) then ((l.length - at1 : Nat) : Int) else (if v < 0 then 0 else v)) = (k : Int) ∧ at1 + k ≤ l.length := by
            by_cases h1 : v < 0
            · rw [if_pos h1]
              by_cases h2 : ((l.length - at1 : Nat) : Int) < 0
              · omega
              · rw [if_neg h2]; exact ⟨0, rfl, by omega⟩
            · rw [if_neg h1]
              by_cases h2 : ((l.length - at1 : Nat) : Int) < v
              · rw [if_pos h2]; exact ⟨l.length - at1, rfl, by omega⟩
              · rw [if_neg h2]; exact ⟨v.toNat, by omega, by omega⟩
          obtain ⟨at2, hat2e⟩ : ∃ x, x = at1 + k := ⟨_, rfl⟩
          have hat2 : at2 ≤ l.length := by omega
          have hpt : ((l.take at2).drop at1).length = at2 - at1 := by rw [List.length_drop, List.length_take]; omega
          have htl1 : (l.take at1).length = at1 := by rw [List.length_take]; omega
          have htl2 : (l.take at2).length = at2 := by rw [List.length_take]; omega
          have htd : l.take at1 ++ (l.take at2).drop at1 = l.take at2 := by
            have := List.take_append_drop at1 (l.take at2)
            rwa [List.take_take, Nat.min_eq_left (by omega)] at this
          have hap : appT at1 (peaksOf (l.take at1)) ((l.take at2).drop at1) = peaksOf (l.take at2) := by
            have := appT_peaks ((l.take at2).drop at1) (l.take at1) (by rw [htd]; omega)
            rwa [htl1, htd] at this
          have hpop1 : (peaksOf (l.take at1)).length = pop at1 := by have := peaksOf_pop (l.take at1) (by omega); rwa [htl1] at this
          have hpop2 : (peaksOf (l.take at2)).length = pop at2 := by have := peaksOf_pop (l.take at2) (by omega); rwa [htl2] at this
          have hple := pop_le at2 at2 (Nat.le_refl _)
          have hsl : at1 + ((l.take at2).drop at1).length = at2 := by omega
          have hrs := (hr.takeH at2 hat2).dropH at1 (by omega)
          have hpk := pk_root l at2 hat2 (by omega)
          have hroot : peaksR (peaksOf (l.take at2)) = rootH (l.take at2) := (root_peaks _ _ (Nat.le_refl _) (by omega)).symm
          refine wpList_nil ?_
          refine then_n ?_
          refine wp_seq ?_
          refine cx_true HF rfl ?_
          refine wp_skip ?_
          refine then_n ?_
          refine wp_seq ?_
          refine wp_block ?_
          refine wp_seq ?_
          refine wp_region_lit ?_
          refine sx_y HF HS (ix_sl (k := i) Tryd.underlying23 sz3 rfl rfl (by omega) HS.row1.nil0) rfl rfl ?_; clear HF ac; intro ac HF
          refine sx_y HF HS (ld_elC sc3 rfl hbv (fun w h => h.row1)) rfl rfl ?_; clear HF ac; intro ac HF
          refine sx_y HF HS (yl_assign rfl) rfl rfl ?_; clear HF ac; intro ac HF
          refine wpList_nil ?_
          refine then_n ?_
          refine wp_seq ?_
          refine wp_region_lit ?_
          refine sx_y HF HS (yl_move rfl) rfl rfl ?_; clear HF ac; intro ac HF
          refine sx_y HF HS (yl_max rfl rfl) rfl rfl ?_; clear HF ac; intro ac HF
          refine sx_y HF HS (yl_move rfl) rfl rfl ?_; clear HF ac; intro ac HF
          refine sx_y HF HS (yl_len_slice Tryd.underlying22 rfl) rfl rfl ?_; clear HF ac; intro ac HF
          refine sx_y HF HS (yl_move rfl) rfl rfl ?_; clear HF ac; intro ac HF
          refine sx_y HF HS (yl_sub64 (r := ((l.length - at1 : Nat) : Int)) rfl rfl (by omega) (by omega)) rfl rfl ?_; clear HF ac; intro ac HF
          refine sx_y HF HS (yl_min rfl rfl) rfl rfl ?_; clear HF ac; intro ac HF
          refine sx_y HF HS (yl_assign rfl) rfl rfl ?_; clear HF ac; intro ac HF
          rw [hk] at HF
          refine wpList_nil ?_
          refine then_n ?_
          refine wp_seq ?_
          refine wp_seq ?_
          refine wp_region_lit ?_
          refine sx_y HF HS (yl_move rfl) rfl rfl ?_; clear HF ac; intro ac HF
          refine sx_y HF HS (yl_move rfl) rfl rfl ?_; clear HF ac; intro ac HF
          refine sx_y HF HS (yl_move rfl) rfl rfl ?_; clear HF ac; intro ac HF
          refine sx_y HF HS (yl_move rfl) rfl rfl ?_; clear HF ac; intro ac HF
          refine sx_y HF HS (yl_move rfl) rfl rfl ?_; clear HF ac; intro ac HF
          refine sx_y HF HS (yl_add64 (r := ((at2 : Nat) : Int)) rfl rfl (by omega) (by omega)) rfl rfl ?_; clear HF ac; intro ac HF
          refine sx_y HF HS (sl_lohi (r := ((l.take at2).drop at1).length) Tryd.underlying22 sz33 rfl rfl rfl (by omega) (by omega)) rfl rfl ?_; clear HF ac; intro ac HF
          have hdis : 0 < ((l.take at2).drop at1).length → ∀ x ∈ aF (cutA a at1 c 32), x ∉ ids [⟨g5, sgA (rgS ((at1 : Nat) : Int) ar (peaksOf (l.take at1)).length cr), 101⟩] [⟨33, 32, ar, (peaksOf (l.take at1)).length, cr, hsc (peaksOf (l.take at1))⟩] := by
            intro hpos x hx hh
            have hxa := aF_cutA a at1 c 32 x hx
            have hlt := hr.lt (by rw [hsc_length]; omega) x hxa
            rcases HS.new x (by simp [ids] at hh ⊢; rcases hh with hh | hh <;> simp [hh]) with h1 | h1
            · omega
            · cases h1
          refine sx_call HF Tryd.func17 (by kernel_rfl) (by kernel_rfl) (evs_cons rfl (evs_cons rfl evs_nil)) (append9_any g5 at1 (peaksOf (l.take at1)) ((l.take at2).drop at1) ar (cutA a at1 c 32) cr (c - at1) w ⟨HS.blk _ List.mem_cons_self, HS.row _ List.mem_cons_self⟩ (hrs.below HS.kp) (by omega) hpop1 ((HS.sub (L' := [⟨g5, sgA (rgS ((at1 : Nat) : Int) ar (peaksOf (l.take at1)).length cr), 101⟩]) (R' := [⟨33, 32, ar, (peaksOf (l.take at1)).length, cr, hsc (peaksOf (l.take at1))⟩]) (List.Sublist.refl _) (List.Sublist.cons_cons _ (List.nil_sublist _))).low (by simp) h2) hdis (hT.below HS.kp) (hL.below HS.kp) (Nat.le_trans h2 HS.kp.size)) rfl rfl ?_; clear HF ac
          rintro _ w ⟨rfl, a9, c9, k1⟩
          rw [hap, hsl] at k1
          refine ⟨_, rfl, fun ac HF => ?_⟩
          replace HS : St [] w0 [⟨g5, sgA (rgS ((at2 : Nat) : Int) a9 (peaksOf (l.take at2)).length c9), 101⟩] [⟨33, 32, a9, (peaksOf (l.take at2)).length, c9, hsc (peaksOf (l.take at2))⟩, ⟨3, 1, a30, ns.length, c30, ivs ns⟩] w := St.upd (L1 := [_]) (L := []) (R1 := [_]) (R := [_]) HS k1
          clear k1
          refine sx_y HF HS (yl_neq rfl rfl (decide_eq_false (by exact (fun h => h rfl)))) rfl rfl ?_; clear HF ac; intro ac HF
          refine wpList_nil ?_
          refine then_n ?_
          refine cx_false HF rfl ?_
          refine wp_skip ?_
          refine then_n ?_
          refine wp_seq ?_
          refine wp_region_lit ?_
          refine sx_y HF HS (yl_move rfl) rfl rfl ?_; clear HF ac; intro ac HF
          refine sx_y HF HS (yl_move rfl) rfl rfl ?_; clear HF ac; intro ac HF
          refine sx_y HF HS (yl_add64 (r := ((at2 : Nat) : Int)) rfl rfl (by omega) (by omega)) rfl rfl ?_; clear HF ac; intro ac HF
          refine sx_y HF HS (yl_assign rfl) rfl rfl ?_; clear HF ac; intro ac HF
          refine wpList_nil ?_
          refine then_n ?_
          refine wp_seq ?_
          refine wp_region_lit ?_
          refine sx_y HF HS (yl_assign rfl) rfl rfl ?_; clear HF ac; intro ac HF
          replace HS := HS.nilRow 33 32
          refine wpList_nil ?_
          refine then_n ?_
          refine wp_seq ?_
          refine wp_seq ?_
          refine wp_region_lit ?_
          refine sx_y HF HS (yl_move rfl) rfl rfl ?_; clear HF ac; intro ac HF
          refine sx_call HF Tryd.func18 (by kernel_rfl) (by kernel_rfl) (evs_cons rfl evs_nil) (refPeaks_any at2 w (by omega)) rfl rfl ?_; clear HF ac
          rintro _ w ⟨a56, c56, rfl, k1⟩
          refine ⟨_, rfl, fun ac HF => ?_⟩
          replace HS := HS.joinR1 k1
          clear k1
          refine sx_y HF HS (yl_len_slice Tryd.underlying29 rfl) rfl rfl ?_; clear HF ac; intro ac HF
          refine sx_y HF HS (yl_move rfl) rfl rfl ?_; clear HF ac; intro ac HF
          refine wpList_nil ?_
          refine then_n ?_
          refine wp_block ?_
          replace HF := HF.sub (m' := [(0, _), (5, _), (6, _), (30, _), (31, _), (32, _), (56, _), (57, _), (9, _), (58, _)]) (by repeat (first | exact ag_nil | refine ag_cons rfl ?_))
          refine cx_loop (m := [(0, _), (5, _), (6, _), (30, _), (31, _), (32, _), (56, _), (57, _)]) (HF.sub (by repeat (first | exact ag_nil | refine ag_cons rfl ?_))) (fun m d ac w => ∃ (j : Nat) (qs : List (Nat × Nat)) (want : List Hsh) (aw : Option Addr) (cw : Nat), j ≤ (pkF at2 0 at2).length ∧ want = ((pkF at2 0 at2).take j).map (fun p : Nat × Nat => rootH ((l.take p.2).drop p.1)) ∧ want.length = j ∧ d = (pkF at2 0 at2).length - j ∧ Fr ([(9, .slice aw want.length cw), (58, .int .i64 (j : Int))] ++ m) 104 ac ∧ St [] w0 [⟨g5, sgA (rgS ((at2 : Nat) : Int) a9 (peaksOf (l.take at2)).length c9), 101⟩] [⟨31, 2, a56, (pkF at2 0 at2).length, c56, pvs (pkF at2 0 at2)⟩, ⟨33, 32, aw, want.length, cw, hsc want⟩, ⟨33, 32, a9, (peaksOf (l.take at2)).length, c9, hsc (peaksOf (l.take at2))⟩, ⟨3, 1, a30, ns.length, c30, ivs ns⟩] w) ?_ ?_
          · exact ⟨_, 0, [], [], none, 0, Nat.zero_le _, rfl, rfl, rfl, HF.sub (by repeat (first | exact ag_nil | refine ag_cons rfl ?_)), HS⟩
          · clear HF HS ac w
            rintro d ac w ⟨j, _, want, aw, cw, hj0, hwt, hwl, rfl, HF, HS⟩
            refine wp_seq ?_
            refine wp_region_lit ?_
            refine sx_dec HF HS (yl_lss rfl rfl rfl) rfl rfl ?_ ?_ <;> clear HF ac <;> intro h16x0 ac HF
            · have hj : j + 1 ≤ (pkF at2 0 at2).length := by omega
              obtain ⟨⟨p1, p2⟩, hpj⟩ : ∃ p, (pkF at2 0 at2)[j]? = some p := ⟨_, List.getElem?_eq_getElem (by omega)⟩
              have hpm := pkF_in at2 at2 0 at2 (Nat.le_refl _) (by omega) (by omega) _ (List.mem_of_getElem? hpj)
              simp only at hpm
              have hplen := pkF_len at2 0 at2
              have hp2l : (l.take p2).length = p2 := by rw [List.length_take]; omega
              have hr2 := (hr.takeH p2 (by omega)).dropH p1 (by omega)
              have hpp : ((l.take p2).drop p1).length = p2 - p1 := by rw [List.length_drop, List.length_take]; omega
              refine wpList_nil ?_
              refine then_n ?_
              refine wp_seq ?_
              refine cx_true HF rfl ?_
              refine wp_skip ?_
              refine then_n ?_
              refine wp_seq ?_
              refine wp_block ?_
              refine wp_seq ?_
              refine wp_region_lit ?_
              refine sx_y HF HS (ix_sl (k := j) Tryd.underlying29 sz31 rfl rfl (by omega) HS.row0.nil0) rfl rfl ?_; clear HF ac; intro ac HF
              refine sx_y HF HS (ld_elP ag31 rfl hpj (fun w h => h.row0)) rfl rfl ?_; clear HF ac; intro ac HF
              refine sx_ef HF (ef_alloc HS ze31) rfl rfl ?_; clear HF HS ac; rintro _ w ac ⟨g11, rfl, HS⟩ HF
              refine sx_ef0 HF (ef_stores HS sz31 rfl rfl rfl rfl) rfl ?_; clear HS; rintro _ w HS
              refine wpList_nil ?_
              refine then_n ?_
              refine wp_region_lit ?_
              refine sx_y HF HS (yl_move rfl) rfl rfl ?_; clear HF ac; intro ac HF
              refine sx_y HF HS (yl_move rfl) rfl rfl ?_; clear HF ac; intro ac HF
              refine sx_y HF HS (ix_ar (k := 0) Tryd.underlying31 sz3 rfl rfl (by omega) rfl) rfl rfl ?_; clear HF ac; intro ac HF
              refine sx_y HF HS (ld_sc sc3 rfl rfl rfl) rfl rfl ?_; clear HF ac; intro ac HF
              refine sx_y HF HS (ix_ar (k := 1) Tryd.underlying31 sz3 rfl rfl (by omega) rfl) rfl rfl ?_; clear HF ac; intro ac HF
              refine sx_y HF HS (ld_sc sc3 rfl rfl rfl) rfl rfl ?_; clear HF ac; intro ac HF
              refine sx_y HF HS (sl_lohi (r := ((l.take p2).drop p1).length) Tryd.underlying22 sz33 rfl rfl rfl (by omega) (by omega)) rfl rfl ?_; clear HF ac; intro ac HF
              refine sx_call HF Tryd.func19 (by kernel_rfl) (by kernel_rfl) (evs_cons rfl evs_nil) (root09_any ((l.take p2).drop p1) (cutA a p1 c 32) (c - p1) w (hr2.below HS.kp) (by omega) (hL.below HS.kp) (Nat.le_trans h2 HS.kp.size)) rfl rfl ?_; clear HF ac
              rintro _ w ⟨rfl, k1⟩
              refine ⟨_, rfl, fun ac HF => ?_⟩
              replace HS := HS.call k1
              clear k1
              refine sx_ef HF (ef_lit (n := 1) HS sl22 (parts := #[(0, .tmp 69)]) (evs_cons rfl evs_nil) rfl rfl (s := [(32, _)]) rfl (by simp)) rfl rfl ?_; clear HF HS ac; rintro _ w ac ⟨g70, rfl, HS⟩ HF
              refine sx_ef HF (ef_append1 (n' := (want ++ [(rootH ((l.take p2).drop p1))]).length) (ys := hsc (want ++ [(rootH ((l.take p2).drop p1))])) HS sl22 rfl rfl rfl (by simp) (by simp; omega) (hsc_app1 _ _)) rfl rfl ?_; clear HF HS ac; rintro _ w ac ⟨a71, c71, rfl, HS⟩ HF
              refine sx_y HF HS (yl_assign rfl) rfl rfl ?_; clear HF ac; intro ac HF
              refine wpList_nil ?_
              refine blk_n ?_
              refine then_n ?_
              refine wp_region_lit ?_
              refine sx_y HF HS (yl_add64 rfl rfl rfl (by omega)) rfl rfl ?_; clear HF ac; intro ac HF
              refine sx_y HF HS (yl_move rfl) rfl rfl ?_; clear HF ac; intro ac HF
              refine wpList_nil ?_
              refine then_n ?_
              refine ⟨_, ?_, j + 1, [], _, _, _, hj, ?_, by simp [hwl], rfl, HF.sub (by repeat (first | exact ag_nil | refine ag_cons rfl ?_)), HS.d2⟩
              · omega
              · rw [hwt, List.take_add_one, hpj, List.map_append]; rfl
            · have hjl : j = (pkF at2 0 at2).length := by omega
              rw [hjl, List.take_length, hpk] at hwt
              clear hwl
              subst hwt
              refine wpList_nil ?_
              refine then_n ?_
              refine wp_seq ?_
              refine cx_false HF rfl ?_
              refine wp_exit ?_
              refine then_x ?_
              refine then_x ?_
              refine blk_hit ?_
              refine then_n ?_
              refine wp_seq ?_
              refine dx_region 29 (by kernel_rfl) HS.drew (fun _ h => h.sub (List.Sublist.cons _ List.Sublist.slnil) (List.nil_sublist _)) ?_; clear HS; intro w HS
              have HH := HS.sub (List.Sublist.cons _ List.Sublist.slnil) (List.nil_sublist _)
              refine dx_p (i := 0) HF rfl (by kernel_rfl) (by kernel_rfl) (by kernel_rfl) (by decide) (fun _ _ _ h => h) (fun _ => HH) (yl_move rfl) rfl rfl ?_; clear HF ac; intro ac HF
              refine dx_p (i := 2) HF rfl (by kernel_rfl) (by kernel_rfl) (by kernel_rfl) (by decide) (fun _ _ _ h => h) (fun _ => HH) (yl_move rfl) rfl rfl ?_; clear HF ac; intro ac HF
              refine dx_one (i := 1) (by kernel_rfl) ?_
              refine op_call (i := 1) HF rfl Tryd.func20 (by kernel_rfl) (by kernel_rfl) (evs_cons rfl evs_nil) (size9_any g5 _ _ _ _ w (HS.blk _ List.mem_cons_self)) rfl rfl ?_; clear HF ac
              rintro _ w ⟨rfl, k1⟩
              refine ⟨_, rfl, fun ac HF => ?_⟩
              replace HH := HH.call k1
              replace HS := HS.call k1
              clear k1
              refine ⟨fun _ => HH, ?_⟩
              refine dx_p (i := 3) HF rfl (by kernel_rfl) (by kernel_rfl) (by kernel_rfl) (by decide) (fun _ _ _ h => h) (fun _ => HH) (yl_neq rfl rfl (decide_eq_false (by exact (fun h => h rfl)))) rfl rfl ?_; clear HF ac; intro ac HF
              refine dx_p (i := 4) HF rfl (by kernel_rfl) (by kernel_rfl) (by kernel_rfl) (by decide) (fun _ _ _ h => h) (fun _ => HH) (yl_move rfl) rfl rfl ?_; clear HF ac; intro ac HF
              refine dx_p (i := 5) HF rfl (by kernel_rfl) (by kernel_rfl) (by kernel_rfl) (by decide) (fun _ _ _ h => h) (fun _ => HH) (yl_move rfl) rfl rfl ?_; clear HF ac; intro ac HF
              refine dx_p (i := 7) HF rfl (by kernel_rfl) (by kernel_rfl) (by kernel_rfl) (by decide) (fun _ _ _ h => h) (fun _ => HH) (yl_move rfl) rfl rfl ?_; clear HF ac; intro ac HF
              refine dx_one (i := 6) (by kernel_rfl) ?_
              refine op_call (i := 6) HF rfl Tryd.func22 (by kernel_rfl) (by kernel_rfl) (evs_cons rfl evs_nil) (peaks9_any g5 at2 (peaksOf (l.take at2)) a9 c9 w ⟨HS.blk _ List.mem_cons_self, HS.row _ (List.mem_cons_of_mem _ (List.mem_cons_of_mem _ List.mem_cons_self))⟩ (by omega)) rfl rfl ?_; clear HF ac
              rintro _ w ⟨a79, c79, rfl, k1⟩
              refine ⟨_, rfl, fun ac HF => ?_⟩
              replace HH := HH.call k1.kp
              replace HS := HS.joinR1 k1
              clear k1
              refine ⟨fun _ => HH, ?_⟩
              refine dx_one (i := 8) (by kernel_rfl) ?_
              refine op_call (i := 8) HF rfl Tryd.func21 (by kernel_rfl) (by kernel_rfl) (evs_cons rfl (evs_cons rfl evs_nil)) (same9_any (peaksOf (l.take at2)) (peaksOf (l.take at2)) a79 aw c79 cw w HS.row0 HS.row2) rfl rfl ?_; clear HF ac
              rintro _ w ⟨rfl, k1⟩
              rw [decide_eq_true rfl]
              refine ⟨_, rfl, fun ac HF => ?_⟩
              replace HH := HH.call k1
              replace HS := HS.call k1
              clear k1
              refine ⟨fun _ => HH, ?_⟩
              refine dx_p (i := 9) HF rfl (by kernel_rfl) (by kernel_rfl) (by kernel_rfl) (by decide) (fun _ _ _ h => h) (fun _ => HH) (yl_not rfl) rfl rfl ?_; clear HF ac; intro ac HF
              refine dx_p (i := 10) HF rfl (by kernel_rfl) (by kernel_rfl) (by kernel_rfl) (by decide) (fun _ _ _ h => h) (fun _ => HH) (yl_pick (b := false) rfl rfl) rfl rfl ?_; clear HF ac; intro ac HF
              refine dx_p (i := 11) HF rfl (by kernel_rfl) (by kernel_rfl) (by kernel_rfl) (by decide) (fun _ _ _ h => h) (fun _ => HH) (yl_move rfl) rfl rfl ?_; clear HF ac; intro ac HF
              refine dx_p (i := 12) HF rfl (by kernel_rfl) (by kernel_rfl) (by kernel_rfl) (by decide) (fun _ _ _ h => h) (fun _ => HH) (yl_move rfl) rfl rfl ?_; clear HF ac; intro ac HF
              refine dx_p (i := 14) HF rfl (by kernel_rfl) (by kernel_rfl) (by kernel_rfl) (by decide) (fun _ _ _ h => h) (fun _ => HH) (yl_move rfl) rfl rfl ?_; clear HF ac; intro ac HF
              refine dx_p (i := 15) HF rfl (by kernel_rfl) (by kernel_rfl) (by kernel_rfl) (by decide) (fun _ _ _ h => h) (fun _ => HH) (yl_move rfl) rfl rfl ?_; clear HF ac; intro ac HF
              refine dx_p (i := 16) HF rfl (by kernel_rfl) (by kernel_rfl) (by kernel_rfl) (by decide) (fun _ _ _ h => h) (fun _ => HH) (sl_hi (r := (l.take at2).length) Tryd.underlying22 sz33 rfl rfl (by omega) (by omega)) rfl rfl ?_; clear HF ac; intro ac HF
              refine dx_one (i := 13) (by kernel_rfl) ?_
              refine op_call (i := 13) HF rfl Tryd.func23 (by kernel_rfl) (by kernel_rfl) (evs_cons rfl evs_nil) (root9_any g5 at2 (peaksOf (l.take at2)) a9 c9 w ⟨HS.blk _ List.mem_cons_self, HS.row _ (List.mem_cons_of_mem _ (List.mem_cons_of_mem _ (List.mem_cons_of_mem _ List.mem_cons_self)))⟩ hpop2 (by omega) (hL.below HS.kp) (Nat.le_trans h2 HS.kp.size)) rfl rfl ?_; clear HF ac
              rintro _ w ⟨rfl, k1⟩
              rw [hroot]
              refine ⟨_, rfl, fun ac HF => ?_⟩
              replace HH := HH.call k1
              replace HS := HS.call k1
              clear k1
              refine ⟨fun _ => HH, ?_⟩
              refine dx_one (i := 17) (by kernel_rfl) ?_
              refine op_call (i := 17) HF rfl Tryd.func19 (by kernel_rfl) (by kernel_rfl) (evs_cons rfl evs_nil) (root09_any (l.take at2) a c w ((hr.takeH at2 hat2).below HS.kp) (by omega) (hL.below HS.kp) (Nat.le_trans h2 HS.kp.size)) rfl rfl ?_; clear HF ac
              rintro _ w ⟨rfl, k1⟩
              refine ⟨_, rfl, fun ac HF => ?_⟩
              replace HH := HH.call k1
              replace HS := HS.call k1
              clear k1
              refine ⟨fun _ => HH, ?_⟩
              refine dx_p (i := 18) HF rfl (by kernel_rfl) (by kernel_rfl) (by kernel_rfl) (by decide) (fun _ _ _ h => h) (fun _ => HH) (Tryd.yl_neH rfl rfl (decide_eq_false (by exact (fun h => h rfl)))) rfl rfl ?_; clear HF ac; intro ac HF
              refine dx_p (i := 19) HF rfl (by kernel_rfl) (by kernel_rfl) (by kernel_rfl) (by decide) (fun _ _ _ h => h) (fun _ => HH) (yl_pick (b := false) rfl rfl) rfl rfl ?_; clear HF ac; intro ac HF
              refine dx_p (i := 20) HF rfl (by kernel_rfl) (by kernel_rfl) (by kernel_rfl) (by decide) (fun _ _ _ h => h) (fun _ => HH) (yl_move rfl) rfl rfl ?_; clear HF ac; intro ac HF
              refine dx_p (i := 21) HF rfl (by kernel_rfl) (by kernel_rfl) (by kernel_rfl) (by decide) (fun _ _ _ h => h) (fun _ => HH) (yl_move rfl) rfl rfl ?_; clear HF ac; intro ac HF
              refine dx_p (i := 24) HF rfl (by kernel_rfl) (by kernel_rfl) (by kernel_rfl) (by decide) (fun _ _ _ h => h) (fun _ => HH) (yl_move rfl) rfl rfl ?_; clear HF ac; intro ac HF
              refine dx_p (i := 25) HF rfl (by kernel_rfl) (by kernel_rfl) (by kernel_rfl) (by decide) (fun _ _ _ h => h) (fun _ => HH) (yl_move rfl) rfl rfl ?_; clear HF ac; intro ac HF
              refine dx_one (i := 22) (by kernel_rfl) ?_
              refine op_call (i := 22) HF rfl Tryd.func24 (by kernel_rfl) (by kernel_rfl) (evs_cons rfl evs_nil) (cbytes_any g5 at2 (peaksOf (l.take at2)) a9 c9 w ⟨HS.blk _ List.mem_cons_self, HS.row _ (List.mem_cons_of_mem _ (List.mem_cons_of_mem _ (List.mem_cons_of_mem _ List.mem_cons_self)))⟩ (by omega)) rfl rfl ?_; clear HF ac
              rintro _ w ⟨a95, c95, rfl, k1⟩
              refine ⟨_, rfl, fun ac HF => ?_⟩
              replace HH := HH.call k1.kp
              replace HS := HS.joinR1 k1
              clear k1
              refine ⟨fun _ => HH, ?_⟩
              refine dx_two (i := 23) (j := 26) (by kernel_rfl) ?_ ?_
              · refine op_y (i := 23) HF rfl rfl rfl HS (yl_str Tryd.underlying39 Tryd.underlying5 Tryd.underlying9 rfl (fun w h => h.row0)) ?_; clear HF ac; intro ac HF
                refine ⟨fun _ => HH, ?_⟩
                refine dx_one (i := 26) (by kernel_rfl) ?_
                refine op_call (i := 26) HF rfl Tryd.func25 (by kernel_rfl) (by kernel_rfl) (evs_cons rfl (evs_cons rfl evs_nil)) (bytes9_any at2 (peaksOf (l.take at2)) aw cw w HS.row3 (by omega)) rfl rfl ?_; clear HF ac
                rintro _ w ⟨rfl, k1⟩
                refine ⟨_, rfl, fun ac HF => ?_⟩
                replace HH := HH.call k1
                replace HS := HS.call k1
                clear k1
                refine ⟨fun _ => HH, ?_⟩
                refine dx_p (i := 27) HF rfl (by kernel_rfl) (by kernel_rfl) (by kernel_rfl) (by decide) (fun _ _ _ h => h) (fun _ => HH) (yl_neS rfl rfl (decide_eq_false (by exact (fun h => h rfl)))) rfl rfl ?_; clear HF ac; intro ac HF
                refine dx_p (i := 28) HF rfl (by kernel_rfl) (by kernel_rfl) (by kernel_rfl) (by decide) (fun _ _ _ h => h) (fun _ => HH) (yl_pick (b := false) rfl rfl) rfl rfl ?_; clear HF ac; intro ac HF
                refine dx_done (by kernel_rfl) ?_
                clear HH
                refine then_n ?_
                refine cx_false HF rfl ?_
                refine wp_skip ?_
                refine blk_n ?_
                refine then_n ?_
                refine wp_region_lit ?_
                refine sx_y HF HS (yl_add64 rfl rfl rfl (by omega)) rfl rfl ?_; clear HF ac; intro ac HF
                refine sx_y HF HS (yl_move rfl) rfl rfl ?_; clear HF ac; intro ac HF
                refine wpList_nil ?_
                refine then_n ?_
                refine ⟨_, ?_, i + 1, at2, a9, c9, hi, hat2, rfl, HF.sub (by repeat (first | exact ag_nil | refine ag_cons rfl ?_)), HS.sub (List.Sublist.refl _) (List.Sublist.cons _ (List.Sublist.cons _ (List.Sublist.cons _ (List.Sublist.cons _ (List.Sublist.refl _)))))⟩
                omega
              · refine op_call (i := 26) HF rfl Tryd.func25 (by kernel_rfl) (by kernel_rfl) (evs_cons rfl (evs_cons rfl evs_nil)) (bytes9_any at2 (peaksOf (l.take at2)) aw cw w HS.row3 (by omega)) rfl rfl ?_; clear HF ac
                rintro _ w ⟨rfl, k1⟩
                refine ⟨_, rfl, fun ac HF => ?_⟩
                replace HH := HH.call k1
                replace HS := HS.call k1
                clear k1
                refine ⟨fun _ => HH, ?_⟩
                refine dx_one (i := 23) (by kernel_rfl) ?_
                refine op_y (i := 23) HF rfl rfl rfl HS (yl_str Tryd.underlying39 Tryd.underlying5 Tryd.underlying9 rfl (fun w h => h.row0)) ?_; clear HF ac; intro ac HF
                refine ⟨fun _ => HH, ?_⟩
                refine dx_p (i := 27) HF rfl (by kernel_rfl) (by kernel_rfl) (by kernel_rfl) (by decide) (fun _ _ _ h => h) (fun _ => HH) (yl_neS rfl rfl (decide_eq_false (by exact (fun h => h rfl)))) rfl rfl ?_; clear HF ac; intro ac HF
                refine dx_p (i := 28) HF rfl (by kernel_rfl) (by kernel_rfl) (by kernel_rfl) (by decide) (fun _ _ _ h => h) (fun _ => HH) (yl_pick (b := false) rfl rfl) rfl rfl ?_; clear HF ac; intro ac HF
                refine dx_done (by kernel_rfl) ?_
                clear HH
                refine then_n ?_
                refine cx_false HF rfl ?_
                refine wp_skip ?_
                refine blk_n ?_
                refine then_n ?_
                refine wp_region_lit ?_
                refine sx_y HF HS (yl_add64 rfl rfl rfl (by omega)) rfl rfl ?_; clear HF ac; intro ac HF
                refine sx_y HF HS (yl_move rfl) rfl rfl ?_; clear HF ac; intro ac HF
                refine wpList_nil ?_
                refine then_n ?_
                refine ⟨_, ?_, i + 1, at2, a9, c9, hi, hat2, rfl, HF.sub (by repeat (first | exact ag_nil | refine ag_cons rfl ?_)), HS.sub (List.Sublist.refl _) (List.Sublist.cons _ (List.Sublist.cons _ (List.Sublist.cons _ (List.Sublist.cons _ (List.Sublist.refl _)))))⟩
                omega
        · refine wpList_nil ?_
          refine then_n ?_
          refine wp_seq ?_
          refine cx_false HF rfl ?_
          refine wp_exit ?_
          refine then_x ?_
          refine then_x ?_
          refine blk_hit ?_
          refine then_n ?_
          refine wp_seq ?_
          refine wp_region_lit ?_
          refine sx_call HF Tryd.func15 (by kernel_rfl) (by kernel_rfl) evs_nil (awake9_any w (hT.below HS.kp) (hL.below HS.kp) (Nat.le_trans h2 HS.kp.size)) rfl rfl ?_; clear HF ac
          rintro _ w ⟨rfl, k1⟩
          refine ⟨_, rfl, fun ac HF => ?_⟩
          replace HS := HS.call k1
          clear k1
          refine sx_y HF HS (yl_assign rfl) rfl rfl ?_; clear HF ac; intro ac HF
          refine wpList_nil ?_
          refine then_n ?_
          refine wp_ret ?_
          exact rt1 rfl HF HS rfl ⟨rfl, HS.kp⟩

end Go.Proofs.YtalnkhgonfcabaaDoor.compactGrows
