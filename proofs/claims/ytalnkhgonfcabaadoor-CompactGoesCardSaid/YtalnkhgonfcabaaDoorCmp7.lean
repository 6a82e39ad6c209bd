/-
  ref09.Count; compact's Parse. (Printed by sx_cmp7.py.)
-/
import Derived.Test.YtalnkhgonfcabaaDoorCmpL
namespace Go.Proofs.YtalnkhgonfcabaaDoor
open Go.RowKit

/-! ### Types -/
namespace Cmp7
theorem fd101x0 : FdT Tryd.prog 101 0 0 := FdT.mk' (k := 0) Tryd.underlying101 (by kernel_rfl)
theorem fd101x1 : FdT Tryd.prog 101 1 1 := FdT.mk' (k := 0) Tryd.underlying101 (by kernel_rfl)
theorem sc3 : ScT Tryd.prog 3 := ScT.mk' Tryd.underlying3 rfl (by kernel_rfl)
theorem sc22 : ScT Tryd.prog 22 := ScT.mk' Tryd.underlying22 rfl (by kernel_rfl)
theorem sz22 : (Tryd.prog.info? 22).map (·.size) = some 1 := by kernel_rfl
theorem ze101 : ZeS Tryd.prog 101 [(1, .int .i64 0), (1, .slice none 0 0)] := ⟨.agg _, ZeT.mk' (by kernel_rfl), rfl⟩
end Cmp7
open Go.Proofs.YtalnkhgonfcabaaDoor.Cmp7

set_option maxRecDepth 100000 in
theorem refCount_any (n : Nat) (w0 : World) (hn : n ≤ 1099511627776) :
    Calls Tryd.prog 27 #[.int .i64 (n : Int)] w0 fun e w' => e = .returned (.int .i64 ((pop n : Nat) : Int)) ∧ Kp [] w0 w' := by
  refine calls_st (F := []) (args := [.int .i64 (n : Int)]) Tryd.func27 rfl (n := 13) rfl rfl ?_
  intro ac w HF HS
  refine wp_seq ?_
  refine wp_region_lit ?_
  refine sx_y HF HS (yl_assign rfl) rfl rfl ?_; clear HF ac; intro ac HF
  refine wpList_nil ?_
  refine then_n ?_
  refine wp_seq ?_
  refine wp_region_lit ?_
  refine sx_y HF HS (yl_assign rfl) rfl rfl ?_; clear HF ac; intro ac HF
  refine wpList_nil ?_
  refine then_n ?_
  refine wp_seq ?_
  refine wp_block ?_
  replace HF := HF.sub (m' := [(2, _), (0, _), (3, _)]) (by repeat (first | exact ag_nil | refine ag_cons rfl ?_))
  refine cx_loop (m := [(2, _)]) (HF.sub (by repeat (first | exact ag_nil | refine ag_cons rfl ?_))) (fun m d ac w => ∃ (x c : Nat), x ≤ n ∧ c ≤ n ∧ c + pop x = pop n ∧ d = 2 * x ∧ Fr ([(0, .int .i64 (x : Int)), (3, .int .i64 (c : Int))] ++ m) 13 ac ∧ St [] w0 [] [] w) ?_ ?_
  · exact ⟨_, n, 0, Nat.le_refl _, Nat.zero_le _, Nat.zero_add _, rfl, HF.sub (by repeat (first | exact ag_nil | refine ag_cons rfl ?_)), HS⟩
  · clear HF HS ac w
    rintro d ac w ⟨x, c, hxn, hcn, hpc, rfl, HF, HS⟩
    refine wp_seq ?_
    refine wp_seq ?_
    refine wp_region_lit ?_
    refine sx_y HF HS (yl_move rfl) rfl rfl ?_; clear HF ac; intro ac HF
    refine sx_dec HF HS (yl_gtr rfl rfl rfl) rfl rfl ?_ ?_ <;> clear HF ac <;> intro h2x1 ac HF
    · have hx0 : 0 < x := by omega
      have hst := pop_step x
      have hpl := pop_le n n (Nat.le_refl _)
      refine wpList_nil ?_
      refine then_n ?_
      refine cx_true HF rfl ?_
      refine wp_skip ?_
      refine then_n ?_
      refine wp_block ?_
      refine wp_seq ?_
      refine wp_region_lit ?_
      refine sx_y HF HS (yl_move rfl) rfl rfl ?_; clear HF ac; intro ac HF
      refine sx_y HF HS (yl_move rfl) rfl rfl ?_; clear HF ac; intro ac HF
      refine sx_y HF HS (yl_remN (p := x) (q := 2) rfl rfl (by decide)) rfl rfl ?_; clear HF ac; intro ac HF
      refine sx_y HF HS (yl_add64 (r := ((c + x % 2 : Nat) : Int)) rfl rfl (by omega) (by omega)) rfl rfl ?_; clear HF ac; intro ac HF
      refine sx_y HF HS (yl_assign rfl) rfl rfl ?_; clear HF ac; intro ac HF
      refine wpList_nil ?_
      refine then_n ?_
      refine wp_region_lit ?_
      refine sx_y HF HS (yl_move rfl) rfl rfl ?_; clear HF ac; intro ac HF
      refine sx_y HF HS (yl_quoN (p := x) (q := 2) rfl rfl (by decide) (by omega)) rfl rfl ?_; clear HF ac; intro ac HF
      refine sx_y HF HS (yl_assign rfl) rfl rfl ?_; clear HF ac; intro ac HF
      refine wpList_nil ?_
      refine blk_n ?_
      refine then_n ?_
      refine ⟨_, ?_, x / 2, c + x % 2, by omega, by omega, by omega, rfl, HF.sub (by repeat (first | exact ag_nil | refine ag_cons rfl ?_)), HS⟩
      omega
    · obtain rfl : x = 0 := by omega
      rw [pop_zero, Nat.add_zero] at hpc
      subst hpc
      refine wpList_nil ?_
      refine then_n ?_
      refine cx_false HF rfl ?_
      refine wp_exit ?_
      refine then_x ?_
      refine then_x ?_
      refine blk_hit ?_
      refine then_n ?_
      refine wp_seq ?_
      refine wp_region_lit ?_
      refine sx_y HF HS (yl_move rfl) rfl rfl ?_; clear HF ac; intro ac HF
      refine sx_y HF HS (yl_assign rfl) rfl rfl ?_; clear HF ac; intro ac HF
      refine wpList_nil ?_
      refine then_n ?_
      refine wp_ret ?_
      exact rt1 rfl HF HS rfl ⟨rfl, HS.kp⟩

set_option maxRecDepth 100000 in
theorem parse9_A (bs : List UInt8) (a : Option Addr) (c n : Nat) (w0 : World) (hr : Rd w0 a bs.length c 1 (bcs bs)) (hb : bs.length ≤ 1000000) (hn : (pS bs).1 = (n : Int)) (hD : isDone (pH bs).2 = false) :
    Calls Tryd.prog 26 #[.slice a bs.length c] w0 fun e w' => e = .returned (.tuple #[.pointer none, .int .i64 10]) ∧ Kp [] w0 w' := by
  have hn0 : (rCount 0 1048576 (some bs)).1 = (n : Int) := hn
  have hnl := (pS_le bs).2
  have hpl := pH_le bs
  refine calls_st (F := []) (args := [.slice a bs.length c]) Tryd.func26 rfl (n := 35) rfl rfl ?_
  intro ac w HF HS
  refine wp_seq ?_
  refine wp_region_lit ?_
  refine sx_y HF HS (yl_assign rfl) rfl rfl ?_; clear HF ac; intro ac HF
  refine sx_y HF HS (yl_assign rfl) rfl rfl ?_; clear HF ac; intro ac HF
  refine wpList_nil ?_
  refine then_n ?_
  refine wp_seq ?_
  refine wp_region_lit ?_
  refine sx_y HF HS (yl_move rfl) rfl rfl ?_; clear HF ac; intro ac HF
  refine sx_call HF Tryd.func77 (by kernel_rfl) (by kernel_rfl) (evs_cons rfl evs_nil) (newIn_any a c bs w (hr.below HS.kp) (by omega)) rfl rfl ?_; clear HF ac
  rintro _ w ⟨p, G, rfl, hI2, hfr, hlt, hpG, k1⟩
  refine ⟨_, rfl, fun ac HF => ?_⟩
  have hfr0 : ∀ x ∈ p :: G, w0.heap.size ≤ x := fun x hx => Nat.le_trans HS.kp.size (hfr x hx)
  replace HS := HS.call k1
  clear k1 hfr
  refine sx_y HF HS (yl_assign rfl) rfl rfl ?_; clear HF ac; intro ac HF
  refine wpList_nil ?_
  refine then_n ?_
  refine wp_seq ?_
  refine wp_region_lit ?_
  refine sx_y HF HS (yl_move rfl) rfl rfl ?_; clear HF ac; intro ac HF
  refine sx_call HF Tryd.func78 (by kernel_rfl) (by kernel_rfl) (evs_cons rfl (evs_cons rfl (evs_cons rfl evs_nil))) (count_any p 0 1048576 (some bs) G w hI2) rfl rfl ?_; clear HF ac
  rintro _ w ⟨rfl, hI3, k1⟩
  rw [hn0]
  refine ⟨_, rfl, fun ac HF => ?_⟩
  replace hlt := fun x (hx : x ∈ p :: G) => Nat.lt_of_lt_of_le (hlt x hx) k1.size
  replace HS := HS.kept k1 (by simp [ids]) (fun x hx hl => by obtain rfl := List.mem_singleton.1 hx; have := hfr0 x List.mem_cons_self; omega)
  clear hI2 k1
  have hI2 := hI3
  clear hI3
  refine sx_y HF HS (bd_st (parts := #[(0, .tmp 9)]) Tryd.underlying101 (by kernel_rfl) ze101 (evs_cons rfl evs_nil) (pl := [(0, 1), (1, 1)]) (by kernel_rfl) (szs := [1]) rfl (inferInstance : SgW [(1, _)]) rfl) rfl rfl ?_; clear HF ac; intro ac HF
  obtain ⟨wp, hwp⟩ : ∃ x, x = w := ⟨w, rfl⟩
  have HSo := HS
  rw [← hwp] at HSo hI2
  replace HS : St (ids [] []) wp [] [] w := by rw [hwp]; exact HS.rebase
  rw [← hwp] at hlt
  refine sx_ef HF (ef_boxs HS rfl) rfl rfl ?_; clear HF HS ac; rintro _ w ac ⟨g11, rfl, HS⟩ HF
  have hg11 : wp.heap.size ≤ g11 := by
    rcases HS.new g11 (by simp [ids]) with h | h
    · exact h
    · simp [ids] at h
  have hgn : ∀ x ∈ p :: G, x ≠ g11 := fun x hx => by have h1 := hlt x hx; omega
  replace hI2 := hI2.kept HS.kp (by simp [ids]) (by simp [ids])
  replace hlt := fun x (hx : x ∈ p :: G) => Nat.lt_of_lt_of_le (hlt x hx) HS.kp.size
  replace HS := HS.back HSo.kp.size (fun x hx => HSo.new x hx) (HSo.kp.trans HS.kp (fun x hx hlt => by rcases HSo.new x hx with h | h; omega; exact h))
  clear HSo
  clear hwp hg11
  refine sx_y HF HS (yl_assign rfl) rfl rfl ?_; clear HF ac; intro ac HF
  refine wpList_nil ?_
  refine then_n ?_
  refine wp_seq ?_
  refine wp_region_lit ?_
  refine sx_y HF HS (yl_move rfl) rfl rfl ?_; clear HF ac; intro ac HF
  refine sx_y HF HS (yl_move rfl) rfl rfl ?_; clear HF ac; intro ac HF
  refine sx_call HF Tryd.func79 (by kernel_rfl) (by kernel_rfl) (evs_cons rfl (evs_cons rfl evs_nil)) (hashes_any p 64 _ G w hI2 hpG (fun x hx => hlt x (List.mem_cons_of_mem _ hx))) rfl rfl ?_; clear HF ac
  rintro _ w ⟨a14, c14, rfl, o7, f7, hI3, k1⟩
  refine ⟨_, rfl, fun ac HF => ?_⟩
  have ha14 : ∀ x ∈ aF a14, x ∉ p :: G := fun x hx hh => by have h1 := f7 x hx; have h2 := hlt x hh; omega
  replace hlt := fun x (hx : x ∈ p :: G) => Nat.lt_of_lt_of_le (hlt x hx) k1.size
  have hold := HS.lt
  have hsz := HS.kp.size
  replace HS := HS.kept k1 (fun x hx hh => by obtain rfl := List.mem_singleton.1 hx; simp [ids] at hh; exact hgn x List.mem_cons_self hh) (fun x hx hl => by obtain rfl := List.mem_singleton.1 hx; have := hfr0 x List.mem_cons_self; omega)
  replace HS : St [] w0 [⟨g11, sgA (rgS (n : Int) none 0 0), 101⟩] [⟨33, 32, a14, (pH bs).1.length, c14, hsc (pH bs).1⟩] w := HS.addRow2 o7 (fun x hx => ⟨by have h1 := f7 x hx; omega, fun hh => by have h1 := f7 x hx; have h2 := hold x hh; omega⟩)
  clear hI2 o7 f7 k1 hold hsz
  have hI2 := hI3
  clear hI3
  refine sx_y HF HS (yl_nilCheck rfl) rfl rfl ?_; clear HF ac; intro ac HF
  refine sx_y HF HS (fa_st fd101x1 rfl) rfl rfl ?_; clear HF ac; intro ac HF
  obtain ⟨wp, hwp⟩ : ∃ x, x = w := ⟨w, rfl⟩
  have HSo := HS
  rw [← hwp] at HSo hI2
  replace HS : St (ids [⟨g11, sgA (rgS (n : Int) none 0 0), 101⟩] [⟨33, 32, a14, (pH bs).1.length, c14, hsc (pH bs).1⟩]) wp [⟨g11, sgA (rgS (n : Int) none 0 0), 101⟩] [⟨33, 32, a14, (pH bs).1.length, c14, hsc (pH bs).1⟩] w := by rw [hwp]; exact HS.rebase
  refine sx_ef0 HF (ef_store HS sz22 rfl rfl rfl) rfl ?_; clear HS; rintro _ w HS
  have hpo : p ∉ ids [⟨g11, sgA (rgS (n : Int) none 0 0), 101⟩] [⟨33, 32, a14, (pH bs).1.length, c14, hsc (pH bs).1⟩] := fun hh => by
    simp [ids] at hh
    rcases hh with hh | hh
    · exact hgn p List.mem_cons_self hh
    · exact ha14 p hh List.mem_cons_self
  have hGo : ∀ x ∈ G, x ∉ ids [⟨g11, sgA (rgS (n : Int) none 0 0), 101⟩] [⟨33, 32, a14, (pH bs).1.length, c14, hsc (pH bs).1⟩] := fun x hx hh => by
    simp [ids] at hh
    rcases hh with hh | hh
    · exact hgn x (List.mem_cons_of_mem _ hx) hh
    · exact ha14 x hh (List.mem_cons_of_mem _ hx)
  replace hI2 := hI2.kept HS.kp hpo hGo
  replace HS := HS.back HSo.kp.size (fun x hx => HSo.new x hx) (HSo.kp.trans HS.kp (fun x hx hlt => by rcases HSo.new x hx with h | h; omega; exact h))
  clear HSo
  clear hwp
  obtain ⟨wp, hwp⟩ : ∃ x, x = w := ⟨w, rfl⟩
  have HSo := HS
  rw [← hwp] at HSo hI2
  replace HS : St (ids [⟨g11, sgA (rgS (n : Int) a14 (pH bs).1.length c14), 101⟩] [⟨33, 32, a14, (pH bs).1.length, c14, hsc (pH bs).1⟩]) wp [⟨g11, sgA (rgS (n : Int) a14 (pH bs).1.length c14), 101⟩] [⟨33, 32, a14, (pH bs).1.length, c14, hsc (pH bs).1⟩] w := by rw [hwp]; exact HS.rebase
  refine wpList_nil ?_
  refine then_n ?_
  refine wp_seq ?_
  refine wp_seq ?_
  refine dx_region 17 (by kernel_rfl) HS.drew (fun _ h => h) ?_; clear HS; intro w HS
  have HH := HS
  refine dx_p (i := 0) HF rfl (by kernel_rfl) (by kernel_rfl) (by kernel_rfl) (by decide) (fun _ _ _ h => h) (fun _ => HH) (yl_move rfl) rfl rfl ?_; clear HF ac; intro ac HF
  refine dx_one (i := 1) (by kernel_rfl) ?_
  replace hI2 := hI2.kept HS.kp hpo hGo
  refine op_call (i := 1) HF rfl Tryd.func80 (by kernel_rfl) (by kernel_rfl) (evs_cons rfl evs_nil) (done_any p _ G w hI2) rfl rfl ?_; clear HF ac
  rintro _ w ⟨rfl, rfl⟩
  rw [show isDone (rHashes 64 (rCount 0 1048576 (some bs)).2).2 = false from hD]
  refine ⟨_, rfl, fun ac HF => ?_⟩
  skip
  refine ⟨fun _ => HH, ?_⟩
  refine dx_p (i := 2) HF rfl (by kernel_rfl) (by kernel_rfl) (by kernel_rfl) (by decide) (fun _ _ _ h => h) (fun _ => HH) (yl_not rfl) rfl rfl ?_; clear HF ac; intro ac HF
  refine dx_p (i := 3) HF rfl (by kernel_rfl) (by kernel_rfl) (by kernel_rfl) (by decide) (fun _ _ _ h => h) (fun _ => HH) (yl_move rfl) rfl rfl ?_; clear HF ac; intro ac HF
  refine dx_off (i := 4) HF rfl (by kernel_rfl) (by kernel_rfl) (by kernel_rfl) (by decide) (fun _ _ _ h => h) (fun _ => HH) rfl rfl ?_; clear HF ac; intro ac HF
  refine dx_off (i := 5) HF rfl (by kernel_rfl) (by kernel_rfl) (by kernel_rfl) (by decide) (fun _ _ _ h => h) (fun _ => HH) rfl rfl ?_; clear HF ac; intro ac HF
  refine dx_off (i := 6) HF rfl (by kernel_rfl) (by kernel_rfl) (by kernel_rfl) (by decide) (fun _ _ _ h => h) (fun _ => HH) rfl rfl ?_; clear HF ac; intro ac HF
  refine dx_off (i := 7) HF rfl (by kernel_rfl) (by kernel_rfl) (by kernel_rfl) (by decide) (fun _ _ _ h => h) (fun _ => HH) rfl rfl ?_; clear HF ac; intro ac HF
  refine dx_off (i := 8) HF rfl (by kernel_rfl) (by kernel_rfl) (by kernel_rfl) (by decide) (fun _ _ _ h => h) (fun _ => HH) rfl rfl ?_; clear HF ac; intro ac HF
  refine dx_off (i := 9) HF rfl (by kernel_rfl) (by kernel_rfl) (by kernel_rfl) (by decide) (fun _ _ _ h => h) (fun _ => HH) rfl rfl ?_; clear HF ac; intro ac HF
  refine dx_off (i := 10) HF rfl (by kernel_rfl) (by kernel_rfl) (by kernel_rfl) (by decide) (fun _ _ _ h => h) (fun _ => HH) rfl rfl ?_; clear HF ac; intro ac HF
  refine dx_off (i := 11) HF rfl (by kernel_rfl) (by kernel_rfl) (by kernel_rfl) (by decide) (fun _ _ _ h => h) (fun _ => HH) rfl rfl ?_; clear HF ac; intro ac HF
  refine dx_off (i := 12) HF rfl (by kernel_rfl) (by kernel_rfl) (by kernel_rfl) (by decide) (fun _ _ _ h => h) (fun _ => HH) rfl rfl ?_; clear HF ac; intro ac HF
  refine dx_off (i := 13) HF rfl (by kernel_rfl) (by kernel_rfl) (by kernel_rfl) (by decide) (fun _ _ _ h => h) (fun _ => HH) rfl rfl ?_; clear HF ac; intro ac HF
  refine dx_off (i := 14) HF rfl (by kernel_rfl) (by kernel_rfl) (by kernel_rfl) (by decide) (fun _ _ _ h => h) (fun _ => HH) rfl rfl ?_; clear HF ac; intro ac HF
  refine dx_off (i := 15) HF rfl (by kernel_rfl) (by kernel_rfl) (by kernel_rfl) (by decide) (fun _ _ _ h => h) (fun _ => HH) rfl rfl ?_; clear HF ac; intro ac HF
  refine dx_p (i := 16) HF rfl (by kernel_rfl) (by kernel_rfl) (by kernel_rfl) (by decide) (fun _ _ _ h => h) (fun _ => HH) (yl_pick (b := true) rfl rfl) rfl rfl ?_; clear HF ac; intro ac HF
  refine dx_done (by kernel_rfl) ?_
  clear HH
  refine then_n ?_
  refine cx_true HF rfl ?_
  refine wp_seq ?_
  refine wp_region_lit ?_
  refine sx_y HF HS (yl_assign rfl) rfl rfl ?_; clear HF ac; intro ac HF
  refine sx_y HF HS (yl_assign rfl) rfl rfl ?_; clear HF ac; intro ac HF
  refine wpList_nil ?_
  refine then_n ?_
  refine wp_ret ?_
  refine then_r ?_
  exact rt2 rfl HF HS rfl rfl ⟨rfl, HSo.kp.trans HS.kp (fun x hx hlt => by rcases HSo.new x hx with h | h; omega; exact h)⟩

set_option maxRecDepth 100000 in
theorem parse9_B (bs : List UInt8) (a : Option Addr) (c n : Nat) (w0 : World) (hr : Rd w0 a bs.length c 1 (bcs bs)) (hb : bs.length ≤ 1000000) (hn : (pS bs).1 = (n : Int)) (hD : isDone (pH bs).2 = true) (hne : (pH bs).1.length ≠ pop n) :
    Calls Tryd.prog 26 #[.slice a bs.length c] w0 fun e w' => e = .returned (.tuple #[.pointer none, .int .i64 10]) ∧ Kp [] w0 w' := by
  have hn0 : (rCount 0 1048576 (some bs)).1 = (n : Int) := hn
  have hnl := (pS_le bs).2
  have hpl := pH_le bs
  refine calls_st (F := []) (args := [.slice a bs.length c]) Tryd.func26 rfl (n := 35) rfl rfl ?_
  intro ac w HF HS
  refine wp_seq ?_
  refine wp_region_lit ?_
  refine sx_y HF HS (yl_assign rfl) rfl rfl ?_; clear HF ac; intro ac HF
  refine sx_y HF HS (yl_assign rfl) rfl rfl ?_; clear HF ac; intro ac HF
  refine wpList_nil ?_
  refine then_n ?_
  refine wp_seq ?_
  refine wp_region_lit ?_
  refine sx_y HF HS (yl_move rfl) rfl rfl ?_; clear HF ac; intro ac HF
  refine sx_call HF Tryd.func77 (by kernel_rfl) (by kernel_rfl) (evs_cons rfl evs_nil) (newIn_any a c bs w (hr.below HS.kp) (by omega)) rfl rfl ?_; clear HF ac
  rintro _ w ⟨p, G, rfl, hI2, hfr, hlt, hpG, k1⟩
  refine ⟨_, rfl, fun ac HF => ?_⟩
  have hfr0 : ∀ x ∈ p :: G, w0.heap.size ≤ x := fun x hx => Nat.le_trans HS.kp.size (hfr x hx)
  replace HS := HS.call k1
  clear k1 hfr
  refine sx_y HF HS (yl_assign rfl) rfl rfl ?_; clear HF ac; intro ac HF
  refine wpList_nil ?_
  refine then_n ?_
  refine wp_seq ?_
  refine wp_region_lit ?_
  refine sx_y HF HS (yl_move rfl) rfl rfl ?_; clear HF ac; intro ac HF
  refine sx_call HF Tryd.func78 (by kernel_rfl) (by kernel_rfl) (evs_cons rfl (evs_cons rfl (evs_cons rfl evs_nil))) (count_any p 0 1048576 (some bs) G w hI2) rfl rfl ?_; clear HF ac
  rintro _ w ⟨rfl, hI3, k1⟩
  rw [hn0]
  refine ⟨_, rfl, fun ac HF => ?_⟩
  replace hlt := fun x (hx : x ∈ p :: G) => Nat.lt_of_lt_of_le (hlt x hx) k1.size
  replace HS := HS.kept k1 (by simp [ids]) (fun x hx hl => by obtain rfl := List.mem_singleton.1 hx; have := hfr0 x List.mem_cons_self; omega)
  clear hI2 k1
  have hI2 := hI3
  clear hI3
  refine sx_y HF HS (bd_st (parts := #[(0, .tmp 9)]) Tryd.underlying101 (by kernel_rfl) ze101 (evs_cons rfl evs_nil) (pl := [(0, 1), (1, 1)]) (by kernel_rfl) (szs := [1]) rfl (inferInstance : SgW [(1, _)]) rfl) rfl rfl ?_; clear HF ac; intro ac HF
  obtain ⟨wp, hwp⟩ : ∃ x, x = w := ⟨w, rfl⟩
  have HSo := HS
  rw [← hwp] at HSo hI2
  replace HS : St (ids [] []) wp [] [] w := by rw [hwp]; exact HS.rebase
  rw [← hwp] at hlt
  refine sx_ef HF (ef_boxs HS rfl) rfl rfl ?_; clear HF HS ac; rintro _ w ac ⟨g11, rfl, HS⟩ HF
  have hg11 : wp.heap.size ≤ g11 := by
    rcases HS.new g11 (by simp [ids]) with h | h
    · exact h
    · simp [ids] at h
  have hgn : ∀ x ∈ p :: G, x ≠ g11 := fun x hx => by have h1 := hlt x hx; omega
  replace hI2 := hI2.kept HS.kp (by simp [ids]) (by simp [ids])
  replace hlt := fun x (hx : x ∈ p :: G) => Nat.lt_of_lt_of_le (hlt x hx) HS.kp.size
  replace HS := HS.back HSo.kp.size (fun x hx => HSo.new x hx) (HSo.kp.trans HS.kp (fun x hx hlt => by rcases HSo.new x hx with h | h; omega; exact h))
  clear HSo
  clear hwp hg11
  refine sx_y HF HS (yl_assign rfl) rfl rfl ?_; clear HF ac; intro ac HF
  refine wpList_nil ?_
  refine then_n ?_
  refine wp_seq ?_
  refine wp_region_lit ?_
  refine sx_y HF HS (yl_move rfl) rfl rfl ?_; clear HF ac; intro ac HF
  refine sx_y HF HS (yl_move rfl) rfl rfl ?_; clear HF ac; intro ac HF
  refine sx_call HF Tryd.func79 (by kernel_rfl) (by kernel_rfl) (evs_cons rfl (evs_cons rfl evs_nil)) (hashes_any p 64 _ G w hI2 hpG (fun x hx => hlt x (List.mem_cons_of_mem _ hx))) rfl rfl ?_; clear HF ac
  rintro _ w ⟨a14, c14, rfl, o7, f7, hI3, k1⟩
  refine ⟨_, rfl, fun ac HF => ?_⟩
  have ha14 : ∀ x ∈ aF a14, x ∉ p :: G := fun x hx hh => by have h1 := f7 x hx; have h2 := hlt x hh; omega
  replace hlt := fun x (hx : x ∈ p :: G) => Nat.lt_of_lt_of_le (hlt x hx) k1.size
  have hold := HS.lt
  have hsz := HS.kp.size
  replace HS := HS.kept k1 (fun x hx hh => by obtain rfl := List.mem_singleton.1 hx; simp [ids] at hh; exact hgn x List.mem_cons_self hh) (fun x hx hl => by obtain rfl := List.mem_singleton.1 hx; have := hfr0 x List.mem_cons_self; omega)
  replace HS : St [] w0 [⟨g11, sgA (rgS (n : Int) none 0 0), 101⟩] [⟨33, 32, a14, (pH bs).1.length, c14, hsc (pH bs).1⟩] w := HS.addRow2 o7 (fun x hx => ⟨by have h1 := f7 x hx; omega, fun hh => by have h1 := f7 x hx; have h2 := hold x hh; omega⟩)
  clear hI2 o7 f7 k1 hold hsz
  have hI2 := hI3
  clear hI3
  refine sx_y HF HS (yl_nilCheck rfl) rfl rfl ?_; clear HF ac; intro ac HF
  refine sx_y HF HS (fa_st fd101x1 rfl) rfl rfl ?_; clear HF ac; intro ac HF
  obtain ⟨wp, hwp⟩ : ∃ x, x = w := ⟨w, rfl⟩
  have HSo := HS
  rw [← hwp] at HSo hI2
  replace HS : St (ids [⟨g11, sgA (rgS (n : Int) none 0 0), 101⟩] [⟨33, 32, a14, (pH bs).1.length, c14, hsc (pH bs).1⟩]) wp [⟨g11, sgA (rgS (n : Int) none 0 0), 101⟩] [⟨33, 32, a14, (pH bs).1.length, c14, hsc (pH bs).1⟩] w := by rw [hwp]; exact HS.rebase
  refine sx_ef0 HF (ef_store HS sz22 rfl rfl rfl) rfl ?_; clear HS; rintro _ w HS
  have hpo : p ∉ ids [⟨g11, sgA (rgS (n : Int) none 0 0), 101⟩] [⟨33, 32, a14, (pH bs).1.length, c14, hsc (pH bs).1⟩] := fun hh => by
    simp [ids] at hh
    rcases hh with hh | hh
    · exact hgn p List.mem_cons_self hh
    · exact ha14 p hh List.mem_cons_self
  have hGo : ∀ x ∈ G, x ∉ ids [⟨g11, sgA (rgS (n : Int) none 0 0), 101⟩] [⟨33, 32, a14, (pH bs).1.length, c14, hsc (pH bs).1⟩] := fun x hx hh => by
    simp [ids] at hh
    rcases hh with hh | hh
    · exact hgn x (List.mem_cons_of_mem _ hx) hh
    · exact ha14 x hh (List.mem_cons_of_mem _ hx)
  replace hI2 := hI2.kept HS.kp hpo hGo
  replace HS := HS.back HSo.kp.size (fun x hx => HSo.new x hx) (HSo.kp.trans HS.kp (fun x hx hlt => by rcases HSo.new x hx with h | h; omega; exact h))
  clear HSo
  clear hwp
  obtain ⟨wp, hwp⟩ : ∃ x, x = w := ⟨w, rfl⟩
  have HSo := HS
  rw [← hwp] at HSo hI2
  replace HS : St (ids [⟨g11, sgA (rgS (n : Int) a14 (pH bs).1.length c14), 101⟩] [⟨33, 32, a14, (pH bs).1.length, c14, hsc (pH bs).1⟩]) wp [⟨g11, sgA (rgS (n : Int) a14 (pH bs).1.length c14), 101⟩] [⟨33, 32, a14, (pH bs).1.length, c14, hsc (pH bs).1⟩] w := by rw [hwp]; exact HS.rebase
  refine wpList_nil ?_
  refine then_n ?_
  refine wp_seq ?_
  refine wp_seq ?_
  refine dx_region 17 (by kernel_rfl) HS.drew (fun _ h => h) ?_; clear HS; intro w HS
  have HH := HS
  refine dx_p (i := 0) HF rfl (by kernel_rfl) (by kernel_rfl) (by kernel_rfl) (by decide) (fun _ _ _ h => h) (fun _ => HH) (yl_move rfl) rfl rfl ?_; clear HF ac; intro ac HF
  refine dx_one (i := 1) (by kernel_rfl) ?_
  replace hI2 := hI2.kept HS.kp hpo hGo
  refine op_call (i := 1) HF rfl Tryd.func80 (by kernel_rfl) (by kernel_rfl) (evs_cons rfl evs_nil) (done_any p _ G w hI2) rfl rfl ?_; clear HF ac
  rintro _ w ⟨rfl, rfl⟩
  rw [show isDone (rHashes 64 (rCount 0 1048576 (some bs)).2).2 = true from hD]
  refine ⟨_, rfl, fun ac HF => ?_⟩
  skip
  refine ⟨fun _ => HH, ?_⟩
  refine dx_p (i := 2) HF rfl (by kernel_rfl) (by kernel_rfl) (by kernel_rfl) (by decide) (fun _ _ _ h => h) (fun _ => HH) (yl_not rfl) rfl rfl ?_; clear HF ac; intro ac HF
  refine dx_p (i := 3) HF rfl (by kernel_rfl) (by kernel_rfl) (by kernel_rfl) (by decide) (fun _ _ _ h => h) (fun _ => HH) (yl_move rfl) rfl rfl ?_; clear HF ac; intro ac HF
  refine dx_p (i := 4) HF rfl (by kernel_rfl) (by kernel_rfl) (by kernel_rfl) (by decide) (fun _ _ _ h => h) (fun _ => HH) (yl_move rfl) rfl rfl ?_; clear HF ac; intro ac HF
  refine dx_p (i := 5) HF rfl (by kernel_rfl) (by kernel_rfl) (by kernel_rfl) (by decide) (fun _ _ _ h => h) (fun _ => HH) (yl_nilCheck rfl) rfl rfl ?_; clear HF ac; intro ac HF
  refine dx_p (i := 6) HF rfl (by kernel_rfl) (by kernel_rfl) (by kernel_rfl) (by decide) (fun _ _ _ h => h) (fun _ => HH) (fa_st fd101x1 rfl) rfl rfl ?_; clear HF ac; intro ac HF
  refine dx_k (i := 7) HF rfl (by kernel_rfl) (by kernel_rfl) (by kernel_rfl) (by kernel_rfl) (by kernel_rfl) (fun _ _ _ h => h) HH (ld_sc sc22 rfl rfl rfl) rfl rfl ?_; clear HF ac; intro ac HF
  refine dx_p (i := 8) HF rfl (by kernel_rfl) (by kernel_rfl) (by kernel_rfl) (by decide) (fun _ _ _ h => h) (fun _ => HH) (yl_len_slice Tryd.underlying22 rfl) rfl rfl ?_; clear HF ac; intro ac HF
  refine dx_p (i := 9) HF rfl (by kernel_rfl) (by kernel_rfl) (by kernel_rfl) (by decide) (fun _ _ _ h => h) (fun _ => HH) (yl_move rfl) rfl rfl ?_; clear HF ac; intro ac HF
  refine dx_p (i := 10) HF rfl (by kernel_rfl) (by kernel_rfl) (by kernel_rfl) (by decide) (fun _ _ _ h => h) (fun _ => HH) (yl_nilCheck rfl) rfl rfl ?_; clear HF ac; intro ac HF
  refine dx_p (i := 11) HF rfl (by kernel_rfl) (by kernel_rfl) (by kernel_rfl) (by decide) (fun _ _ _ h => h) (fun _ => HH) (fa_st fd101x0 rfl) rfl rfl ?_; clear HF ac; intro ac HF
  refine dx_k (i := 12) HF rfl (by kernel_rfl) (by kernel_rfl) (by kernel_rfl) (by kernel_rfl) (by kernel_rfl) (fun _ _ _ h => h) HH (ld_sc sc3 rfl rfl rfl) rfl rfl ?_; clear HF ac; intro ac HF
  refine dx_p (i := 13) HF rfl (by kernel_rfl) (by kernel_rfl) (by kernel_rfl) (by decide) (fun _ _ _ h => h) (fun _ => HH) (yl_iconvN rfl (by kernel_rfl) Tryd.underlying120 (wrap_u64n (by omega))) rfl rfl ?_; clear HF ac; intro ac HF
  refine dx_one (i := 14) (by kernel_rfl) ?_
  refine op_call (i := 14) HF rfl Tryd.func81 (by kernel_rfl) (by kernel_rfl) (evs_cons rfl evs_nil) (pop_any n (by omega) w) rfl rfl ?_; clear HF ac
  rintro _ w ⟨rfl, rfl⟩
  refine ⟨_, rfl, fun ac HF => ?_⟩
  skip
  refine ⟨fun _ => HH, ?_⟩
  refine dx_p (i := 15) HF rfl (by kernel_rfl) (by kernel_rfl) (by kernel_rfl) (by decide) (fun _ _ _ h => h) (fun _ => HH) (yl_neq rfl rfl (decide_eq_true (by omega))) rfl rfl ?_; clear HF ac; intro ac HF
  refine dx_p (i := 16) HF rfl (by kernel_rfl) (by kernel_rfl) (by kernel_rfl) (by decide) (fun _ _ _ h => h) (fun _ => HH) (yl_pick (b := false) rfl rfl) rfl rfl ?_; clear HF ac; intro ac HF
  refine dx_done (by kernel_rfl) ?_
  clear HH
  refine then_n ?_
  refine cx_true HF rfl ?_
  refine wp_seq ?_
  refine wp_region_lit ?_
  refine sx_y HF HS (yl_assign rfl) rfl rfl ?_; clear HF ac; intro ac HF
  refine sx_y HF HS (yl_assign rfl) rfl rfl ?_; clear HF ac; intro ac HF
  refine wpList_nil ?_
  refine then_n ?_
  refine wp_ret ?_
  refine then_r ?_
  exact rt2 rfl HF HS rfl rfl ⟨rfl, HSo.kp.trans HS.kp (fun x hx hlt => by rcases HSo.new x hx with h | h; omega; exact h)⟩

set_option maxRecDepth 100000 in
theorem parse9_C (bs : List UInt8) (a : Option Addr) (c n : Nat) (w0 : World) (hr : Rd w0 a bs.length c 1 (bcs bs)) (hb : bs.length ≤ 1000000) (hn : (pS bs).1 = (n : Int)) (hD : isDone (pH bs).2 = true) (hne : (pH bs).1.length = pop n) :
    Calls Tryd.prog 26 #[.slice a bs.length c] w0 fun e w' => ∃ g a' c', e = .returned (.tuple #[.pointer (some ⟨g, 0, none⟩), .int .i64 0]) ∧ St [] w0 [⟨g, sgA (rgS (n : Int) a' (pH bs).1.length c'), 101⟩] [⟨33, 32, a', (pH bs).1.length, c', hsc (pH bs).1⟩] w' := by
  have hn0 : (rCount 0 1048576 (some bs)).1 = (n : Int) := hn
  have hnl := (pS_le bs).2
  have hpl := pH_le bs
  refine calls_st (F := []) (args := [.slice a bs.length c]) Tryd.func26 rfl (n := 35) rfl rfl ?_
  intro ac w HF HS
  refine wp_seq ?_
  refine wp_region_lit ?_
  refine sx_y HF HS (yl_assign rfl) rfl rfl ?_; clear HF ac; intro ac HF
  refine sx_y HF HS (yl_assign rfl) rfl rfl ?_; clear HF ac; intro ac HF
  refine wpList_nil ?_
  refine then_n ?_
  refine wp_seq ?_
  refine wp_region_lit ?_
  refine sx_y HF HS (yl_move rfl) rfl rfl ?_; clear HF ac; intro ac HF
  refine sx_call HF Tryd.func77 (by kernel_rfl) (by kernel_rfl) (evs_cons rfl evs_nil) (newIn_any a c bs w (hr.below HS.kp) (by omega)) rfl rfl ?_; clear HF ac
  rintro _ w ⟨p, G, rfl, hI2, hfr, hlt, hpG, k1⟩
  refine ⟨_, rfl, fun ac HF => ?_⟩
  have hfr0 : ∀ x ∈ p :: G, w0.heap.size ≤ x := fun x hx => Nat.le_trans HS.kp.size (hfr x hx)
  replace HS := HS.call k1
  clear k1 hfr
  refine sx_y HF HS (yl_assign rfl) rfl rfl ?_; clear HF ac; intro ac HF
  refine wpList_nil ?_
  refine then_n ?_
  refine wp_seq ?_
  refine wp_region_lit ?_
  refine sx_y HF HS (yl_move rfl) rfl rfl ?_; clear HF ac; intro ac HF
  refine sx_call HF Tryd.func78 (by kernel_rfl) (by kernel_rfl) (evs_cons rfl (evs_cons rfl (evs_cons rfl evs_nil))) (count_any p 0 1048576 (some bs) G w hI2) rfl rfl ?_; clear HF ac
  rintro _ w ⟨rfl, hI3, k1⟩
  rw [hn0]
  refine ⟨_, rfl, fun ac HF => ?_⟩
  replace hlt := fun x (hx : x ∈ p :: G) => Nat.lt_of_lt_of_le (hlt x hx) k1.size
  replace HS := HS.kept k1 (by simp [ids]) (fun x hx hl => by obtain rfl := List.mem_singleton.1 hx; have := hfr0 x List.mem_cons_self; omega)
  clear hI2 k1
  have hI2 := hI3
  clear hI3
  refine sx_y HF HS (bd_st (parts := #[(0, .tmp 9)]) Tryd.underlying101 (by kernel_rfl) ze101 (evs_cons rfl evs_nil) (pl := [(0, 1), (1, 1)]) (by kernel_rfl) (szs := [1]) rfl (inferInstance : SgW [(1, _)]) rfl) rfl rfl ?_; clear HF ac; intro ac HF
  obtain ⟨wp, hwp⟩ : ∃ x, x = w := ⟨w, rfl⟩
  have HSo := HS
  rw [← hwp] at HSo hI2
  replace HS : St (ids [] []) wp [] [] w := by rw [hwp]; exact HS.rebase
  rw [← hwp] at hlt
  refine sx_ef HF (ef_boxs HS rfl) rfl rfl ?_; clear HF HS ac; rintro _ w ac ⟨g11, rfl, HS⟩ HF
  have hg11 : wp.heap.size ≤ g11 := by
    rcases HS.new g11 (by simp [ids]) with h | h
    · exact h
    · simp [ids] at h
  have hgn : ∀ x ∈ p :: G, x ≠ g11 := fun x hx => by have h1 := hlt x hx; omega
  replace hI2 := hI2.kept HS.kp (by simp [ids]) (by simp [ids])
  replace hlt := fun x (hx : x ∈ p :: G) => Nat.lt_of_lt_of_le (hlt x hx) HS.kp.size
  replace HS := HS.back HSo.kp.size (fun x hx => HSo.new x hx) (HSo.kp.trans HS.kp (fun x hx hlt => by rcases HSo.new x hx with h | h; omega; exact h))
  clear HSo
  clear hwp hg11
  refine sx_y HF HS (yl_assign rfl) rfl rfl ?_; clear HF ac; intro ac HF
  refine wpList_nil ?_
  refine then_n ?_
  refine wp_seq ?_
  refine wp_region_lit ?_
  refine sx_y HF HS (yl_move rfl) rfl rfl ?_; clear HF ac; intro ac HF
  refine sx_y HF HS (yl_move rfl) rfl rfl ?_; clear HF ac; intro ac HF
  refine sx_call HF Tryd.func79 (by kernel_rfl) (by kernel_rfl) (evs_cons rfl (evs_cons rfl evs_nil)) (hashes_any p 64 _ G w hI2 hpG (fun x hx => hlt x (List.mem_cons_of_mem _ hx))) rfl rfl ?_; clear HF ac
  rintro _ w ⟨a14, c14, rfl, o7, f7, hI3, k1⟩
  refine ⟨_, rfl, fun ac HF => ?_⟩
  have ha14 : ∀ x ∈ aF a14, x ∉ p :: G := fun x hx hh => by have h1 := f7 x hx; have h2 := hlt x hh; omega
  replace hlt := fun x (hx : x ∈ p :: G) => Nat.lt_of_lt_of_le (hlt x hx) k1.size
  have hold := HS.lt
  have hsz := HS.kp.size
  replace HS := HS.kept k1 (fun x hx hh => by obtain rfl := List.mem_singleton.1 hx; simp [ids] at hh; exact hgn x List.mem_cons_self hh) (fun x hx hl => by obtain rfl := List.mem_singleton.1 hx; have := hfr0 x List.mem_cons_self; omega)
  replace HS : St [] w0 [⟨g11, sgA (rgS (n : Int) none 0 0), 101⟩] [⟨33, 32, a14, (pH bs).1.length, c14, hsc (pH bs).1⟩] w := HS.addRow2 o7 (fun x hx => ⟨by have h1 := f7 x hx; omega, fun hh => by have h1 := f7 x hx; have h2 := hold x hh; omega⟩)
  clear hI2 o7 f7 k1 hold hsz
  have hI2 := hI3
  clear hI3
  refine sx_y HF HS (yl_nilCheck rfl) rfl rfl ?_; clear HF ac; intro ac HF
  refine sx_y HF HS (fa_st fd101x1 rfl) rfl rfl ?_; clear HF ac; intro ac HF
  obtain ⟨wp, hwp⟩ : ∃ x, x = w := ⟨w, rfl⟩
  have HSo := HS
  rw [← hwp] at HSo hI2
  replace HS : St (ids [⟨g11, sgA (rgS (n : Int) none 0 0), 101⟩] [⟨33, 32, a14, (pH bs).1.length, c14, hsc (pH bs).1⟩]) wp [⟨g11, sgA (rgS (n : Int) none 0 0), 101⟩] [⟨33, 32, a14, (pH bs).1.length, c14, hsc (pH bs).1⟩] w := by rw [hwp]; exact HS.rebase
  refine sx_ef0 HF (ef_store HS sz22 rfl rfl rfl) rfl ?_; clear HS; rintro _ w HS
  have hpo : p ∉ ids [⟨g11, sgA (rgS (n : Int) none 0 0), 101⟩] [⟨33, 32, a14, (pH bs).1.length, c14, hsc (pH bs).1⟩] := fun hh => by
    simp [ids] at hh
    rcases hh with hh | hh
    · exact hgn p List.mem_cons_self hh
    · exact ha14 p hh List.mem_cons_self
  have hGo : ∀ x ∈ G, x ∉ ids [⟨g11, sgA (rgS (n : Int) none 0 0), 101⟩] [⟨33, 32, a14, (pH bs).1.length, c14, hsc (pH bs).1⟩] := fun x hx hh => by
    simp [ids] at hh
    rcases hh with hh | hh
    · exact hgn x (List.mem_cons_of_mem _ hx) hh
    · exact ha14 x hh (List.mem_cons_of_mem _ hx)
  replace hI2 := hI2.kept HS.kp hpo hGo
  replace HS := HS.back HSo.kp.size (fun x hx => HSo.new x hx) (HSo.kp.trans HS.kp (fun x hx hlt => by rcases HSo.new x hx with h | h; omega; exact h))
  clear HSo
  clear hwp
  obtain ⟨wp, hwp⟩ : ∃ x, x = w := ⟨w, rfl⟩
  have HSo := HS
  rw [← hwp] at HSo hI2
  replace HS : St (ids [⟨g11, sgA (rgS (n : Int) a14 (pH bs).1.length c14), 101⟩] [⟨33, 32, a14, (pH bs).1.length, c14, hsc (pH bs).1⟩]) wp [⟨g11, sgA (rgS (n : Int) a14 (pH bs).1.length c14), 101⟩] [⟨33, 32, a14, (pH bs).1.length, c14, hsc (pH bs).1⟩] w := by rw [hwp]; exact HS.rebase
  refine wpList_nil ?_
  refine then_n ?_
  refine wp_seq ?_
  refine wp_seq ?_
  refine dx_region 17 (by kernel_rfl) HS.drew (fun _ h => h) ?_; clear HS; intro w HS
  have HH := HS
  refine dx_p (i := 0) HF rfl (by kernel_rfl) (by kernel_rfl) (by kernel_rfl) (by decide) (fun _ _ _ h => h) (fun _ => HH) (yl_move rfl) rfl rfl ?_; clear HF ac; intro ac HF
  refine dx_one (i := 1) (by kernel_rfl) ?_
  replace hI2 := hI2.kept HS.kp hpo hGo
  refine op_call (i := 1) HF rfl Tryd.func80 (by kernel_rfl) (by kernel_rfl) (evs_cons rfl evs_nil) (done_any p _ G w hI2) rfl rfl ?_; clear HF ac
  rintro _ w ⟨rfl, rfl⟩
  rw [show isDone (rHashes 64 (rCount 0 1048576 (some bs)).2).2 = true from hD]
  refine ⟨_, rfl, fun ac HF => ?_⟩
  skip
  refine ⟨fun _ => HH, ?_⟩
  refine dx_p (i := 2) HF rfl (by kernel_rfl) (by kernel_rfl) (by kernel_rfl) (by decide) (fun _ _ _ h => h) (fun _ => HH) (yl_not rfl) rfl rfl ?_; clear HF ac; intro ac HF
  refine dx_p (i := 3) HF rfl (by kernel_rfl) (by kernel_rfl) (by kernel_rfl) (by decide) (fun _ _ _ h => h) (fun _ => HH) (yl_move rfl) rfl rfl ?_; clear HF ac; intro ac HF
  refine dx_p (i := 4) HF rfl (by kernel_rfl) (by kernel_rfl) (by kernel_rfl) (by decide) (fun _ _ _ h => h) (fun _ => HH) (yl_move rfl) rfl rfl ?_; clear HF ac; intro ac HF
  refine dx_p (i := 5) HF rfl (by kernel_rfl) (by kernel_rfl) (by kernel_rfl) (by decide) (fun _ _ _ h => h) (fun _ => HH) (yl_nilCheck rfl) rfl rfl ?_; clear HF ac; intro ac HF
  refine dx_p (i := 6) HF rfl (by kernel_rfl) (by kernel_rfl) (by kernel_rfl) (by decide) (fun _ _ _ h => h) (fun _ => HH) (fa_st fd101x1 rfl) rfl rfl ?_; clear HF ac; intro ac HF
  refine dx_k (i := 7) HF rfl (by kernel_rfl) (by kernel_rfl) (by kernel_rfl) (by kernel_rfl) (by kernel_rfl) (fun _ _ _ h => h) HH (ld_sc sc22 rfl rfl rfl) rfl rfl ?_; clear HF ac; intro ac HF
  refine dx_p (i := 8) HF rfl (by kernel_rfl) (by kernel_rfl) (by kernel_rfl) (by decide) (fun _ _ _ h => h) (fun _ => HH) (yl_len_slice Tryd.underlying22 rfl) rfl rfl ?_; clear HF ac; intro ac HF
  refine dx_p (i := 9) HF rfl (by kernel_rfl) (by kernel_rfl) (by kernel_rfl) (by decide) (fun _ _ _ h => h) (fun _ => HH) (yl_move rfl) rfl rfl ?_; clear HF ac; intro ac HF
  refine dx_p (i := 10) HF rfl (by kernel_rfl) (by kernel_rfl) (by kernel_rfl) (by decide) (fun _ _ _ h => h) (fun _ => HH) (yl_nilCheck rfl) rfl rfl ?_; clear HF ac; intro ac HF
  refine dx_p (i := 11) HF rfl (by kernel_rfl) (by kernel_rfl) (by kernel_rfl) (by decide) (fun _ _ _ h => h) (fun _ => HH) (fa_st fd101x0 rfl) rfl rfl ?_; clear HF ac; intro ac HF
  refine dx_k (i := 12) HF rfl (by kernel_rfl) (by kernel_rfl) (by kernel_rfl) (by kernel_rfl) (by kernel_rfl) (fun _ _ _ h => h) HH (ld_sc sc3 rfl rfl rfl) rfl rfl ?_; clear HF ac; intro ac HF
  refine dx_p (i := 13) HF rfl (by kernel_rfl) (by kernel_rfl) (by kernel_rfl) (by decide) (fun _ _ _ h => h) (fun _ => HH) (yl_iconvN rfl (by kernel_rfl) Tryd.underlying120 (wrap_u64n (by omega))) rfl rfl ?_; clear HF ac; intro ac HF
  refine dx_one (i := 14) (by kernel_rfl) ?_
  refine op_call (i := 14) HF rfl Tryd.func81 (by kernel_rfl) (by kernel_rfl) (evs_cons rfl evs_nil) (pop_any n (by omega) w) rfl rfl ?_; clear HF ac
  rintro _ w ⟨rfl, rfl⟩
  refine ⟨_, rfl, fun ac HF => ?_⟩
  skip
  refine ⟨fun _ => HH, ?_⟩
  refine dx_p (i := 15) HF rfl (by kernel_rfl) (by kernel_rfl) (by kernel_rfl) (by decide) (fun _ _ _ h => h) (fun _ => HH) (yl_neq rfl rfl (decide_eq_false (by omega))) rfl rfl ?_; clear HF ac; intro ac HF
  refine dx_p (i := 16) HF rfl (by kernel_rfl) (by kernel_rfl) (by kernel_rfl) (by decide) (fun _ _ _ h => h) (fun _ => HH) (yl_pick (b := false) rfl rfl) rfl rfl ?_; clear HF ac; intro ac HF
  refine dx_done (by kernel_rfl) ?_
  clear HH
  refine then_n ?_
  refine cx_false HF rfl ?_
  refine wp_skip ?_
  refine then_n ?_
  refine wp_seq ?_
  refine wp_region_lit ?_
  refine sx_y HF HS (yl_move rfl) rfl rfl ?_; clear HF ac; intro ac HF
  refine sx_y HF HS (yl_assign rfl) rfl rfl ?_; clear HF ac; intro ac HF
  refine sx_y HF HS (yl_assign rfl) rfl rfl ?_; clear HF ac; intro ac HF
  refine wpList_nil ?_
  refine then_n ?_
  refine wp_ret ?_
  replace HS := HS.back HSo.kp.size (fun x hx => HSo.new x hx) (HSo.kp.trans HS.kp (fun x hx hlt => by rcases HSo.new x hx with h | h; omega; exact h))
  exact rt2 rfl HF HS rfl rfl ⟨_, _, _, rfl, HS⟩

theorem parse9_bad (bs : List UInt8) (a : Option Addr) (c n : Nat) (w0 : World) (hr : Rd w0 a bs.length c 1 (bcs bs)) (hb : bs.length ≤ 1000000) (hn : (pS bs).1 = (n : Int)) (h : pOk bs = false) :
    Calls Tryd.prog 26 #[.slice a bs.length c] w0 fun e w' => e = .returned (.tuple #[.pointer none, .int .i64 10]) ∧ Kp [] w0 w' := by
  cases hD : isDone (pH bs).2 with
  | false => exact parse9_A bs a c n w0 hr hb hn hD
  | true =>
    refine parse9_B bs a c n w0 hr hb hn hD fun hh => ?_
    unfold pOk at h
    rw [hD, hn, Int.toNat_natCast, hh] at h
    simp at h
theorem parse9_ok (bs : List UInt8) (a : Option Addr) (c n : Nat) (w0 : World) (hr : Rd w0 a bs.length c 1 (bcs bs)) (hb : bs.length ≤ 1000000) (hn : (pS bs).1 = (n : Int)) (h : pOk bs = true) :
    Calls Tryd.prog 26 #[.slice a bs.length c] w0 fun e w' => ∃ g a' c', e = .returned (.tuple #[.pointer (some ⟨g, 0, none⟩), .int .i64 0]) ∧ St [] w0 [⟨g, sgA (rgS (n : Int) a' (pH bs).1.length c'), 101⟩] [⟨33, 32, a', (pH bs).1.length, c', hsc (pH bs).1⟩] w' := by
  unfold pOk at h
  rw [Bool.and_eq_true, hn, Int.toNat_natCast] at h
  exact parse9_C bs a c n w0 hr hb hn h.1 (of_decide_eq_true h.2)

end Go.Proofs.YtalnkhgonfcabaaDoor
