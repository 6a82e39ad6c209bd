/-
  slices.Backward over hashes: its rounds. (Printed by sx_it1.py.)
-/
import Derived.Test.YtalnkhgonfcabaaDoorR
namespace Go.Proofs.YtalnkhgonfcabaaDoor.R
open Go.RowKit Go.Proofs.YtalnkhgonfcabaaDoor

/-! ### Types -/
namespace It1
theorem ag33 : AgT Tryd.prog 33 32 := AgT.mk' Tryd.underlying33 rfl (by kernel_rfl)
theorem sc22 : ScT Tryd.prog 22 := ScT.mk' Tryd.underlying22 rfl (by kernel_rfl)
theorem sz33 : (Tryd.prog.info? 33).map (·.size) = some 32 := by kernel_rfl
end It1
open Go.Proofs.YtalnkhgonfcabaaDoor.R.It1

set_option maxRecDepth 100000 in
theorem back_iter (l : List Hsh) (g : Nat) (a : Option Addr) (c : Nat) (W0 : World) (hg : W0.heap[g]? = some (.cells (sgA [(1, .slice a l.length c)]) 22 (0, 0))) (hr : Rd W0 a l.length c 32 (hsc l)) :
    Iter Tryd.prog 116 [.pointer (some ⟨g, 0, none⟩)] (fun k => [.int .i64 ((l.length - 1 - k : Nat) : Int), hv (l.getD (l.length - 1 - k) zeroH)]) l.length (g :: aF a) W0 := by
  intro lr J Jx G0 hJ hJx hG0 hj0 hY
  have hgl : g < W0.heap.size := (Array.getElem?_eq_some_iff.1 hg).1
  have haG : ∀ x ∈ aF a, x ∉ G0 := fun x hx hh => hG0 x hh (List.mem_cons_of_mem _ hx)
  have hlm := hr.lim
  refine callsIn_it (args := [.func (.yield lr) #[] #[], .pointer (some ⟨g, 0, none⟩)]) Tryd.func116 rfl (n := 19) rfl rfl ?_
  intro ac w HF hw
  have HS := St.ofBlk (hw ▸ hg)
  have hi : It J G0 W0 0 G0 w := by rw [hw]; exact It.start hj0
  clear hw
  refine wp_seq ?_
  refine wp_region_lit ?_
  refine sx_y HF HS (ld_sc sc22 rfl rfl rfl) rfl rfl ?_; clear HF ac; intro ac HF
  refine sx_y HF HS (yl_len_slice Tryd.underlying22 rfl) rfl rfl ?_; clear HF ac; intro ac HF
  refine sx_y HF HS (yl_sub64 (r := ((l.length : Int) - 1)) rfl rfl (by omega) (by omega)) rfl rfl ?_; clear HF ac; intro ac HF
  refine sx_y HF HS (yl_assign rfl) rfl rfl ?_; clear HF ac; intro ac HF
  refine wpList_nil ?_
  refine then_n ?_
  refine wp_block ?_
  rw [show (l.length : Int) - 1 = (l.length : Int) - 1 - ((0 : Nat) : Int) by simp] at HF
  replace HF := HF.sub (m' := [(0, _), (1, _), (3, _)]) (by repeat (first | exact ag_nil | refine ag_cons rfl ?_))
  refine cx_loop (m := [(0, _), (1, _)]) (HF.sub (by repeat (first | exact ag_nil | refine ag_cons rfl ?_))) (fun m d ac w => ∃ (k : Nat) (G : List Nat), k ≤ l.length ∧ It J G0 W0 k G w ∧ d = l.length - k ∧ Fr [] ([(3, .int .i64 ((l.length : Int) - 1 - k))] ++ m) 19 ac ∧ St [g] w [⟨g, sgA [(1, .slice a l.length c)], 22⟩] [] w) ?_ ?_
  · exact ⟨_, 0, G0, Nat.zero_le _, hi, rfl, HF.sub (by repeat (first | exact ag_nil | refine ag_cons rfl ?_)), HS.rebase⟩
  · clear hi HF HS ac w
    rintro d ac w ⟨k, G, hk0, hi, rfl, HF, HS⟩
    refine wp_seq ?_
    refine wp_seq ?_
    refine wp_region_lit ?_
    refine sx_y HF HS (yl_move rfl) rfl rfl ?_; clear HF ac; intro ac HF
    refine sx_dec HF HS (yl_geq rfl rfl rfl) rfl rfl ?_ ?_ <;> clear HF ac <;> intro h1x1 ac HF
    · have hk : k < l.length := by omega
      have hix : (l.length : Int) - 1 - k = ((l.length - 1 - k : Nat) : Int) := by omega
      rw [hix] at HF
      have hx : l[l.length - 1 - k]? = some (l.getD (l.length - 1 - k) zeroH) := by rw [List.getD_eq_getElem?_getD, List.getElem?_eq_getElem (by omega)]; rfl
      have hrw := hr.kept hi.kp haG
      refine wpList_nil ?_
      refine then_n ?_
      refine cx_true HF rfl ?_
      refine wp_skip ?_
      refine then_n ?_
      refine wp_seq ?_
      refine wp_block ?_
      refine wp_seq ?_
      refine wp_region_lit ?_
      refine sx_y HF HS (yl_move rfl) rfl rfl ?_; clear HF ac; intro ac HF
      refine sx_y HF HS (yl_move rfl) rfl rfl ?_; clear HF ac; intro ac HF
      refine sx_y HF HS (ld_sc sc22 rfl rfl rfl) rfl rfl ?_; clear HF ac; intro ac HF
      refine sx_y HF HS (yl_move rfl) rfl rfl ?_; clear HF ac; intro ac HF
      refine sx_y HF HS (ix_sl (k := (l.length - 1 - k)) Tryd.underlying22 sz33 rfl rfl (by omega) hrw.nil0) rfl rfl ?_; clear HF ac; intro ac HF
      refine sx_y HF HS (ld_elH ag33 rfl hx (fun w h => hrw.below (kp_nil HS h (by simp)))) rfl rfl ?_; clear HF ac; intro ac HF
      refine sx_yield (lr := lr) HF rfl (evs_cons rfl (evs_cons rfl evs_nil)) (hY k G w hk hi.j) rfl rfl ?_; clear HF ac
      rintro _ w (⟨rfl, G, hj, hadv⟩ | ⟨rfl, G, hj⟩)
      · refine ⟨_, rfl, fun ac HF => ?_⟩
        have HS := HS.at' hadv.kp (fun x hx hh => by simp [ids] at hh; subst hh; exact hi.out hG0 List.mem_cons_self hgl hx)
        replace hi := hi.next hj hadv
        refine sx_y HF HS (yl_not rfl) rfl rfl ?_; clear HF ac; intro ac HF
        refine wpList_nil ?_
        refine then_n ?_
        refine cx_false HF rfl ?_
        refine wp_skip ?_
        refine blk_n ?_
        refine then_n ?_
        refine wp_region_lit ?_
        refine sx_y HF HS (yl_move rfl) rfl rfl ?_; clear HF ac; intro ac HF
        refine sx_y HF HS (yl_sub64 (r := ((l.length : Int) - 1 - (k + 1 : Nat))) rfl rfl (by omega) (by omega)) rfl rfl ?_; clear HF ac; intro ac HF
        refine sx_y HF HS (yl_assign rfl) rfl rfl ?_; clear HF ac; intro ac HF
        refine wpList_nil ?_
        refine then_n ?_
        refine ⟨_, ?_, k + 1, G, hk, hi, rfl, HF.sub (by repeat (first | exact ag_nil | refine ag_cons rfl ?_)), HS⟩
        omega
      · refine ⟨_, rfl, fun ac HF => ?_⟩
        have HS := St.start [] w
        refine sx_y HF HS (yl_not rfl) rfl rfl ?_; clear HF ac; intro ac HF
        refine wpList_nil ?_
        refine then_n ?_
        refine cx_true HF rfl ?_
        refine wp_ret ?_
        refine blk_r ?_
        refine then_r ?_
        refine then_r ?_
        refine blk_r ?_
        exact leave0 HF (rt0 rfl HF.fr ⟨⟨_, rfl⟩, .inr ⟨k, G, hk, hj⟩⟩)
    · obtain rfl : k = l.length := by omega
      refine wpList_nil ?_
      refine then_n ?_
      refine cx_false HF rfl ?_
      refine wp_exit ?_
      refine then_x ?_
      refine then_x ?_
      refine blk_hit ?_
      refine bp_n ?_
      exact leave0 HF (rt0 rfl HF.fr ⟨⟨_, rfl⟩, .inl ⟨G, hi.j⟩⟩)

end Go.Proofs.YtalnkhgonfcabaaDoor.R
