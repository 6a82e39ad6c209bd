/-
  compact's Root: from the last peak on. (Printed by sx_cmp3.py.)
-/
import Derived.Test.YtalnkhgonfcabaaDoorCmp3
namespace Go.Proofs.YtalnkhgonfcabaaDoor.R
open Go.RowKit Go.Proofs.YtalnkhgonfcabaaDoor

/-! ### Types -/
namespace Cmp4
theorem ag33 : AgT Tryd.prog 33 32 := AgT.mk' Tryd.underlying33 rfl (by kernel_rfl)
theorem fd101x0 : FdT Tryd.prog 101 0 0 := FdT.mk' (k := 0) Tryd.underlying101 (by kernel_rfl)
theorem fd101x1 : FdT Tryd.prog 101 1 1 := FdT.mk' (k := 0) Tryd.underlying101 (by kernel_rfl)
theorem sc3 : ScT Tryd.prog 3 := ScT.mk' Tryd.underlying3 rfl (by kernel_rfl)
theorem sc22 : ScT Tryd.prog 22 := ScT.mk' Tryd.underlying22 rfl (by kernel_rfl)
theorem sz33 : (Tryd.prog.info? 33).map (·.size) = some 32 := by kernel_rfl
theorem ze33 : ZeS Tryd.prog 33 [(32, hv zeroH)] := ⟨hv zeroH, ZeT.mk' (by kernel_rfl), (sgA_h zeroH).symm⟩
end Cmp4
open Go.Proofs.YtalnkhgonfcabaaDoor.R.Cmp4

theorem peaksR_drop (ps : List Hsh) (k : Nat) (hk : k + 2 ≤ ps.length) : nodeH ((ps.take (ps.length - 1)).getD (ps.length - 1 - 1 - k) zeroH) (peaksR (ps.drop (ps.length - 1 - k))) = peaksR (ps.drop (ps.length - 1 - (k + 1))) := by
  have h1 : ps.length - 1 - 1 - k < ps.length := by omega
  have e : ps.drop (ps.length - 1 - (k + 1)) = ps[ps.length - 1 - 1 - k] :: ps.drop (ps.length - 1 - k) := by
    rw [show ps.length - 1 - (k + 1) = ps.length - 1 - 1 - k by omega, List.drop_eq_getElem_cons h1, show ps.length - 1 - 1 - k + 1 = ps.length - 1 - k by omega]
  have hne : ps.drop (ps.length - 1 - k) ≠ [] := by
    intro h
    have := congrArg List.length h
    rw [List.length_drop] at this
    simp at this; omega
  rw [e, peaksR_cons _ hne, List.getD_eq_getElem?_getD, List.getElem?_take, if_pos (by omega), List.getElem?_eq_getElem h1]
  rfl
theorem peaksR_last (ps : List Hsh) (x : Hsh) (hx : ps[ps.length - 1]? = some x) : peaksR (ps.drop (ps.length - 1)) = x := by
  rw [drop_at hx, List.drop_eq_nil_of_le (by omega)]; rfl

set_option maxRecDepth 100000 in
theorem root9_some (g n : Nat) (ps : List Hsh) (a : Option Addr) (c : Nat) (w0 : World) (hg : RgA w0 g n ps a c) (hn : n ≠ 0) (hne : 1 ≤ ps.length) (hL : Laid w0) (h2 : 4 ≤ w0.heap.size) :
    Calls Tryd.prog 23 #[.pointer (some ⟨g, 0, none⟩)] w0 fun e w' => e = .returned (hv (peaksR ps)) ∧ Kp [] w0 w' := by
  have hr0 := hg.rd
  have hlm := hr0.lim
  obtain ⟨x, hx⟩ : ∃ x, ps[ps.length - 1]? = some x := ⟨_, List.getElem?_eq_getElem (by omega)⟩
  have hlt : (ps.take (ps.length - 1)).length = ps.length - 1 := by rw [List.length_take]; omega
  refine calls_stL (args := [.pointer (some ⟨g, 0, none⟩)]) (St.ofBlk hg.b) Tryd.func23 rfl (n := 39) rfl rfl ?_
  intro ac w HF HS
  refine wp_seq ?_
  refine wp_region_lit ?_
  refine sx_ef HF (ef_alloc HS ze33) rfl rfl ?_; clear HF HS ac; rintro _ w ac ⟨g2, rfl, HS⟩ HF
  refine wpList_nil ?_
  refine then_n ?_
  refine wp_seq ?_
  refine wp_seq ?_
  refine wp_region_lit ?_
  refine sx_y HF HS (yl_move rfl) rfl rfl ?_; clear HF ac; intro ac HF
  refine sx_y HF HS (yl_nilCheck rfl) rfl rfl ?_; clear HF ac; intro ac HF
  refine sx_y HF HS (fa_st fd101x0 rfl) rfl rfl ?_; clear HF ac; intro ac HF
  refine sx_y HF HS (ld_sc sc3 rfl rfl rfl) rfl rfl ?_; clear HF ac; intro ac HF
  refine sx_y HF HS (yl_eql rfl rfl (decide_eq_false (by omega))) rfl rfl ?_; clear HF ac; intro ac HF
  refine wpList_nil ?_
  refine then_n ?_
  refine cx_false HF rfl ?_
  refine wp_skip ?_
  refine then_n ?_
  refine wp_seq ?_
  refine wp_region_lit ?_
  refine sx_y HF HS (yl_move rfl) rfl rfl ?_; clear HF ac; intro ac HF
  refine sx_y HF HS (yl_nilCheck rfl) rfl rfl ?_; clear HF ac; intro ac HF
  refine sx_y HF HS (fa_st fd101x1 rfl) rfl rfl ?_; clear HF ac; intro ac HF
  refine sx_y HF HS (ld_sc sc22 rfl rfl rfl) rfl rfl ?_; clear HF ac; intro ac HF
  refine sx_y HF HS (yl_len_slice Tryd.underlying22 rfl) rfl rfl ?_; clear HF ac; intro ac HF
  refine sx_y HF HS (yl_sub64 (r := ((ps.length - 1 : Nat) : Int)) rfl rfl (by omega) (by omega)) rfl rfl ?_; clear HF ac; intro ac HF
  refine sx_y HF HS (yl_assign rfl) rfl rfl ?_; clear HF ac; intro ac HF
  refine wpList_nil ?_
  refine then_n ?_
  refine wp_seq ?_
  refine wp_region_lit ?_
  refine sx_y HF HS (yl_move rfl) rfl rfl ?_; clear HF ac; intro ac HF
  refine sx_y HF HS (yl_nilCheck rfl) rfl rfl ?_; clear HF ac; intro ac HF
  refine sx_y HF HS (fa_st fd101x1 rfl) rfl rfl ?_; clear HF ac; intro ac HF
  refine sx_y HF HS (ld_sc sc22 rfl rfl rfl) rfl rfl ?_; clear HF ac; intro ac HF
  refine sx_y HF HS (yl_move rfl) rfl rfl ?_; clear HF ac; intro ac HF
  refine sx_y HF HS (ix_sl (k := ps.length - 1) Tryd.underlying22 sz33 rfl rfl (by omega) hr0.nil0) rfl rfl ?_; clear HF ac; intro ac HF
  refine sx_y HF HS (ld_elH ag33 rfl hx (fun w h => hr0.below (kp_own1 h hg.b))) rfl rfl ?_; clear HF ac; intro ac HF
  refine sx_ef HF (ef_alloc HS ze33) rfl rfl ?_; clear HF HS ac; rintro _ w ac ⟨g4, rfl, HS⟩ HF
  refine sx_ef0 HF (ef_store HS sz33 rfl rfl rfl) rfl ?_; clear HS; rintro _ w HS
  refine wpList_nil ?_
  refine then_n ?_
  refine wp_seq ?_
  refine wp_seq ?_
  refine wp_region_lit ?_
  refine sx_y HF HS (yl_move rfl) rfl rfl ?_; clear HF ac; intro ac HF
  refine sx_y HF HS (yl_nilCheck rfl) rfl rfl ?_; clear HF ac; intro ac HF
  refine sx_y HF HS (fa_st fd101x1 rfl) rfl rfl ?_; clear HF ac; intro ac HF
  refine sx_y HF HS (ld_sc sc22 rfl rfl rfl) rfl rfl ?_; clear HF ac; intro ac HF
  refine sx_y HF HS (yl_move rfl) rfl rfl ?_; clear HF ac; intro ac HF
  refine sx_y HF HS (sl_hi (r := (ps.take (ps.length - 1)).length) Tryd.underlying22 sz33 rfl rfl (by omega) (by rw [List.length_take]; omega)) rfl rfl ?_; clear HF ac; intro ac HF
  refine sx_call HF Tryd.func72 (by kernel_rfl) (by kernel_rfl) (evs_cons rfl evs_nil) (backward_any a (ps.take (ps.length - 1)).length c w) rfl rfl ?_; clear HF ac
  rintro _ w ⟨g9, rfl, k1⟩
  refine ⟨_, rfl, fun ac HF => ?_⟩
  have hk9 := kp_own1 HS hg.b
  replace HS : St [g] w0 (⟨g9, sgA [(1, .slice a (ps.take (ps.length - 1)).length c)], 22⟩ :: [⟨g4, sgA [(32, hv x)], 33⟩, ⟨g2, sgA [(32, hv zeroH)], 33⟩] ++ [⟨g, sgA (rgS n a ps.length c), 101⟩]) [] w := HS.join k1
  clear k1
  refine wpList_nil ?_
  refine then_n ?_
  refine wp_block ?_
  replace HS : St [g] w0 [⟨g9, sgA [(1, .slice a (ps.take (ps.length - 1)).length c)], 22⟩, ⟨g4, sgA [(32, hv x)], 33⟩, ⟨g2, sgA [(32, hv zeroH)], 33⟩, ⟨g, sgA (rgS n a ps.length c), 101⟩] [] w := HS
  have hk0 : Kp [] w0 w := kp_own1 (g := g) (s := rgS n a ps.length c) (bt := 101) HS hg.b
  have hb9 : w.heap[g9]? = some (.cells (sgA [(1, .slice a (ps.take (ps.length - 1)).length c)]) 22 (0, 0)) := HS.blk _ List.mem_cons_self
  have hnd := HS.nd
  have hnew := HS.new
  replace HS : St (ids [⟨g4, sgA [(32, hv x)], 33⟩, ⟨g2, sgA [(32, hv zeroH)], 33⟩] []) w [⟨g4, sgA [(32, hv x)], 33⟩, ⟨g2, sgA [(32, hv zeroH)], 33⟩] [] w := (HS.sub (L' := [⟨g4, sgA [(32, hv x)], 33⟩, ⟨g2, sgA [(32, hv zeroH)], 33⟩]) (R' := []) (List.Sublist.cons _ (List.Sublist.cons_cons _ (List.Sublist.cons_cons _ (List.Sublist.cons _ List.Sublist.slnil)))) (List.Sublist.refl _)).rebase
  have hfr : w0.heap.size ≤ g4 ∧ w0.heap.size ≤ g2 ∧ g9 ≠ g4 ∧ g9 ≠ g2 := by
    have h4 := hnew g4 (by simp [ids])
    have h22 := hnew g2 (by simp [ids])
    simp [ids] at hnd
    simp at h4 h22
    omega
  have haw : ∀ y ∈ aF a, y < w0.heap.size := hr0.lt (by rw [hsc_length]; omega)
  have hRs : ∀ y ∈ ids [⟨g4, sgA [(32, hv x)], 33⟩, ⟨g2, sgA [(32, hv zeroH)], 33⟩] [], y ∉ (g9 :: aF a) := by
    intro y hy hh
    simp [ids] at hy hh
    rcases hh with hh | hh
    · omega
    · have := haw y hh
      omega
  have hRl : ∀ y ∈ (g9 :: aF a), y < w.heap.size := by
    intro y hy
    rcases List.mem_cons.1 hy with rfl | hy
    · exact (Array.getElem?_eq_some_iff.1 hb9).1
    · have := haw y hy
      have := hk0.size
      omega
  have hLp := hL.below hk0
  have h2p := Nat.le_trans h2 hk0.size
  have HKK : ∀ w', Kp (ids [⟨g4, sgA [(32, hv x)], 33⟩, ⟨g2, sgA [(32, hv zeroH)], 33⟩] []) w w' → Kp [] w0 w' := fun w' k => hk0.trans k (fun y hy hlt2 => by simp [ids] at hy; omega)
  replace HF := HF.sub (m' := [(2, _), (4, _), (32, _)]) (by repeat (first | exact ag_nil | refine ag_cons rfl ?_))
  refine wp_range (B := w.heap.size) (args := fun k => [.int .i64 ((((ps.take (ps.length - 1)).length - 1 - k : Nat)) : Int), hv ((ps.take (ps.length - 1)).getD ((ps.take (ps.length - 1)).length - 1 - k) zeroH)]) (N := (ps.take (ps.length - 1)).length) (Rs := (g9 :: aF a)) HF HS Marks.nil (Nat.le_refl _) rfl Tryd.func116 (by kernel_rfl) (by kernel_rfl) (fun w1 k => back_iter (ps.take (ps.length - 1)) g9 a c w1 (by rw [k.block g9 (Array.getElem?_eq_some_iff.1 hb9).1 (by simp)]; exact hb9) ((hr0.takeH (ps.length - 1) (by omega)).below (hk0.trans k (by simp)))) hRs hRl (fun _ => rfl) (by kernel_rfl) (fun _ => rfl) (fun k L R => ∃ x, x = peaksR (ps.drop (ps.length - 1 - k)) ∧ L = [⟨g4, sgA [(32, hv x)], 33⟩, ⟨g2, sgA [(32, hv zeroH)], 33⟩] ∧ R = []) (fun _ _ _ => False) ⟨x, (peaksR_last ps x hx).symm, rfl, rfl⟩ ?_ ?_ ?_
  · rintro lr k L1 R1 ac Fb wb w hw hFb hk ⟨x, hxe, rfl, rfl⟩ HF HS HK; clear hw hFb
    replace HF := HF.sub (m' := [(33, _), (34, _), (2, _), (4, _), (32, _)]) (by repeat (first | exact ag_nil | refine ag_cons rfl ?_))
    refine wp_region_lit ?_
    refine sx_ef HF (ef_alloc HS ze33) rfl rfl ?_; clear HF HS ac; rintro _ w ac ⟨g6, rfl, HS⟩ HF
    refine sx_ef0 HF (ef_store HS sz33 rfl rfl rfl) rfl ?_; clear HS; rintro _ w HS
    refine wpList_nil ?_
    refine then_n ?_
    refine ⟨_, _, _, HF, HS, ?_⟩; clear HF HS HK
    rintro ac Fb wb w hw hFb HF HS HK; clear hw hFb
    refine wp_block ?_
    refine wp_region_lit ?_
    refine sx_y HF HS (ld_ag ag33 rfl rfl) rfl rfl ?_; clear HF ac; intro ac HF
    refine sx_y HF HS (ld_ag ag33 rfl rfl) rfl rfl ?_; clear HF ac; intro ac HF
    refine sx_call HF Tryd.func37 (by kernel_rfl) (by kernel_rfl) (evs_cons rfl (evs_cons rfl evs_nil)) (node_any _ x w (hL.below (HKK _ (HK _ HS.kp))) (Nat.le_trans h2 (HKK _ (HK _ HS.kp)).size)) rfl rfl ?_; clear HF ac
    rintro _ w ⟨rfl, k1⟩
    refine ⟨_, rfl, fun ac HF => ?_⟩
    replace HS := HS.call k1
    clear k1
    refine sx_ef0 HF (ef_store HS sz33 rfl rfl rfl) rfl ?_; clear HS; rintro _ w HS
    refine wpList_nil ?_
    refine blk_n ?_
    refine rq_n ?_
    refine ⟨_, _, ⟨_, ?_, rfl, rfl⟩, HS.d1⟩
    rw [hxe, hlt]; exact peaksR_drop ps k (by omega)
  · rintro Db L1 R1 ac Fb wb w hw hFb ⟨x, hxe, rfl, rfl⟩ HF HS HK HN HM hsz; clear hw hFb
    rw [hlt, Nat.sub_self, List.drop_zero] at hxe
    subst hxe
    have HN2 : ∀ y ∈ Fb, w0.heap.size ≤ y ∨ y ∈ [] := by
      intro y hy
      rcases HN y hy with h | h
      · exact .inl (Nat.le_trans hk0.size h)
      · simp [ids] at h
        left
        omega
    refine blk_n ?_
    refine then_n ?_
    refine wp_seq ?_
    refine wp_region_lit ?_
    refine sx_y HF HS (ld_ag ag33 rfl rfl) rfl rfl ?_; clear HF ac; intro ac HF
    refine sx_ef0 HF (ef_store HS sz33 rfl rfl rfl) rfl ?_; clear HS; rintro _ w HS
    refine wpList_nil ?_
    refine then_n ?_
    refine wp_ret ?_
    exact leave HF (fun b hb => ⟨(HM _ HS.kp b hb).1, Nat.le_trans hk0.size (HM _ HS.kp b hb).2⟩) (HS.back (Nat.le_trans hk0.size hsz) HN2 (HKK _ (HK _ HS.kp))) fun w HS => rt1 rfl HF.fr HS ⟨⟨_, rfl⟩, ld_ag ag33 rfl rfl⟩ ⟨rfl, HS.kp⟩
  · rintro _ _ _ _ _ _ _ _ _ _ h; exact h.elim

end Go.Proofs.YtalnkhgonfcabaaDoor.R
