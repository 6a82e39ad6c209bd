/-
  CompactGoes: its walk. (Printed by sx_cmpgoes.py.)
-/
import Derived.Test.YtalnkhgonfcabaaDoorCmp7
namespace Go.Proofs.YtalnkhgonfcabaaDoor.compactGoes
open Go.RowKit Go.Proofs.YtalnkhgonfcabaaDoor

/-! ### Types -/
namespace CmpO
theorem sl22 : SlT Tryd.prog 22 33 Tryd.t33 (hv zeroH) 32 32 := ⟨Tryd.underlying22, by kernel_rfl, by kernel_rfl, rfl, rfl, hvA_size _, by decide⟩
theorem sz5 : (Tryd.prog.info? 5).map (·.size) = some 1 := by kernel_rfl
theorem sz33 : (Tryd.prog.info? 33).map (·.size) = some 32 := by kernel_rfl
theorem zt33 : ZeT Tryd.prog 33 (hv zeroH) := ZeT.mk' (by kernel_rfl)
end CmpO
open Go.Proofs.YtalnkhgonfcabaaDoor.compactGoes.CmpO

theorem pop_bits : ∀ (f n : Nat), n < 2 ^ f → pop n ≤ f
  | 0, n, h => by obtain rfl : n = 0 := by simpa using h
                  exact Nat.le_refl _
  | f + 1, n, h => by
    have e := Nat.pow_succ' (m := f) (n := 2)
    rw [pop_step]
    have := pop_bits f (n / 2) (by omega)
    omega
theorem hsc_app (a b : List Hsh) : hsc (a ++ b) = hsc a ++ hsc b := by simp [hsc]

set_option maxRecDepth 100000 in
set_option maxHeartbeats 1000000 in
theorem walk (l more : List Hsh) (a b : Option Addr) (c e : Nat) (w0 : World) (hr : Rd w0 a l.length c 32 (hsc l)) (hm : Rd w0 b more.length e 32 (hsc more)) (hT : Tab w0) (hL : Laid w0) (h2 : 4 ≤ w0.heap.size) :
    Calls Tryd.prog 8 #[.slice a l.length c, .slice b more.length e] w0 fun e w' => e = .returned (.bool true) ∧ Kp [] w0 w' := by
  refine calls_st (F := []) (args := [.slice a l.length c, .slice b more.length e]) Tryd.func8 rfl (n := 123) rfl rfl ?_
  intro ac w HF HS
  refine wp_seq ?_
  refine wp_region_lit ?_
  refine sx_y HF HS (yl_assign rfl) rfl rfl ?_; clear HF ac; intro ac HF
  refine wpList_nil ?_
  refine then_n ?_
  refine wp_seq ?_
  refine wp_seq ?_
  refine wp_region_lit ?_
  refine sx_y HF HS (yl_move rfl) rfl rfl ?_; clear HF ac; intro ac HF
  refine sx_y HF HS (yl_len_slice Tryd.underlying22 rfl) rfl rfl ?_; clear HF ac; intro ac HF
  refine sx_dec HF HS (yl_gtr rfl rfl rfl) rfl rfl ?_ ?_ <;> clear HF ac <;> intro h1x2 ac HF
  · refine sx_y HF HS (yl_move rfl) rfl rfl ?_; clear HF ac; intro ac HF
    refine sx_off HF rfl rfl ?_; clear HF ac; intro ac HF
    refine sx_off HF rfl rfl ?_; clear HF ac; intro ac HF
    refine sx_off HF rfl rfl ?_; clear HF ac; intro ac HF
    refine sx_y HF HS (yl_pick (b := true) rfl rfl) rfl rfl ?_; clear HF ac; intro ac HF
    refine wpList_nil ?_
    refine then_n ?_
    refine cx_true HF rfl ?_
    refine wp_seq ?_
    refine wp_region_lit ?_
    refine sx_call HF Tryd.func15 (by kernel_rfl) (by kernel_rfl) evs_nil (awake9_any w (hT.below HS.kp) (hL.below HS.kp) (Nat.le_trans h2 HS.kp.size)) rfl rfl ?_; clear HF ac
    rintro _ w ⟨rfl, k1⟩
    refine ⟨_, rfl, fun ac HF => ?_⟩
    replace HS := HS.call k1
    clear k1
    refine sx_y HF HS (yl_assign rfl) rfl rfl ?_; clear HF ac; intro ac HF
    refine wpList_nil ?_
    refine then_n ?_
    refine wp_ret ?_
    refine then_r ?_
    exact rt1 rfl HF HS rfl ⟨rfl, HS.kp⟩
  · refine sx_y HF HS (yl_move rfl) rfl rfl ?_; clear HF ac; intro ac HF
    refine sx_y HF HS (yl_move rfl) rfl rfl ?_; clear HF ac; intro ac HF
    refine sx_y HF HS (yl_len_slice Tryd.underlying22 rfl) rfl rfl ?_; clear HF ac; intro ac HF
    refine sx_dec HF HS (yl_gtr rfl rfl rfl) rfl rfl ?_ ?_ <;> clear HF ac <;> intro h1x6 ac HF
    · refine sx_y HF HS (yl_pick (b := false) rfl rfl) rfl rfl ?_; clear HF ac; intro ac HF
      refine wpList_nil ?_
      refine then_n ?_
      refine cx_true HF rfl ?_
      refine wp_seq ?_
      refine wp_region_lit ?_
      refine sx_call HF Tryd.func15 (by kernel_rfl) (by kernel_rfl) evs_nil (awake9_any w (hT.below HS.kp) (hL.below HS.kp) (Nat.le_trans h2 HS.kp.size)) rfl rfl ?_; clear HF ac
      rintro _ w ⟨rfl, k1⟩
      refine ⟨_, rfl, fun ac HF => ?_⟩
      replace HS := HS.call k1
      clear k1
      refine sx_y HF HS (yl_assign rfl) rfl rfl ?_; clear HF ac; intro ac HF
      refine wpList_nil ?_
      refine then_n ?_
      refine wp_ret ?_
      refine then_r ?_
      exact rt1 rfl HF HS rfl ⟨rfl, HS.kp⟩
    · have hll : l.length ≤ 60 := by omega
      have hml : more.length ≤ 60 := by omega
      have hla : (l ++ more).length = l.length + more.length := List.length_append
      have hpop0 : (peaksOf l).length = pop l.length := peaksOf_pop l (by omega)
      have hpop1 : (peaksOf (l ++ more)).length = pop (l.length + more.length) := by have := peaksOf_pop (l ++ more) (by omega); rwa [hla] at this
      have hple0 := pop_le l.length l.length (Nat.le_refl _)
      have hple1 := pop_le (l.length + more.length) (l.length + more.length) (Nat.le_refl _)
      have hple2 : pop l.length ≤ 6 := pop_bits 6 l.length (by omega)
      have hap0 : appT 0 [] l = peaksOf l := appT_peaks l [] (by simpa using (by omega : l.length < 9223372036854775807))
      have hap1 : appT l.length (peaksOf l) more = peaksOf (l ++ more) := appT_peaks more l (by omega)
      have hrt0 : peaksR (peaksOf l) = rootH l := (root_peaks _ _ (Nat.le_refl _) (by omega)).symm
      have hrt1 : peaksR (peaksOf (l ++ more)) = rootH (l ++ more) := (root_peaks _ _ (Nat.le_refl _) (by omega)).symm
      have hbl := rgB_len l.length (peaksOf l)
      obtain ⟨q1, q2⟩ := parse_bytes l.length (peaksOf l) (by omega) (by omega)
      have hpS : (pS (rgB l.length (peaksOf l))).1 = (l.length : Int) := by rw [q1]
      have hpH : (pH (rgB l.length (peaksOf l))).1 = peaksOf l := by rw [q2]
      have hpO : pOk (rgB l.length (peaksOf l)) = true := by unfold pOk; rw [q1, q2]; simp [isDone, hpop0]
      have heq27 : decide (l.length = l.length + more.length ∧ peaksOf l = peaksOf (l ++ more)) = decide ((more.length : Int) = 0) := by
        rw [decide_eq_decide]
        constructor
        · rintro ⟨h, _⟩; omega
        · intro h
          obtain rfl : more = [] := List.eq_nil_of_length_eq_zero (by omega)
          exact ⟨rfl, by rw [List.append_nil]⟩
      refine sx_y HF HS (yl_pick (b := false) rfl rfl) rfl rfl ?_; clear HF ac; intro ac HF
      refine wpList_nil ?_
      refine then_n ?_
      refine cx_false HF rfl ?_
      refine wp_skip ?_
      refine then_n ?_
      refine wp_seq ?_
      refine wp_region_lit ?_
      refine sx_call HF Tryd.func16 (by kernel_rfl) (by kernel_rfl) evs_nil (new9_any w) rfl rfl ?_; clear HF ac
      rintro _ w ⟨g5, rfl, k1⟩
      refine ⟨_, rfl, fun ac HF => ?_⟩
      replace HS : St [] w0 [⟨g5, sgA (rgS ((0 : Nat) : Int) none ([] : List Hsh).length 0), 101⟩] [⟨33, 32, none, ([] : List Hsh).length, 0, hsc ([] : List Hsh)⟩] w := HS.join k1
      clear k1
      refine sx_y HF HS (yl_assign rfl) rfl rfl ?_; clear HF ac; intro ac HF
      refine wpList_nil ?_
      refine then_n ?_
      refine wp_seq ?_
      refine wp_seq ?_
      refine wp_region_lit ?_
      refine sx_y HF HS (yl_move rfl) rfl rfl ?_; clear HF ac; intro ac HF
      refine sx_y HF HS (yl_eqPtr Tryd.underlying25 rfl rfl (by exact rfl)) rfl rfl ?_; clear HF ac; intro ac HF
      refine sx_y HF HS (yl_move rfl) rfl rfl ?_; clear HF ac; intro ac HF
      refine sx_y HF HS (yl_move rfl) rfl rfl ?_; clear HF ac; intro ac HF
      refine sx_y HF HS (yl_move rfl) rfl rfl ?_; clear HF ac; intro ac HF
      have hdis : 0 < l.length → ∀ x ∈ aF a, x ∉ ids [⟨g5, sgA (rgS ((0 : Nat) : Int) none ([] : List Hsh).length 0), 101⟩] [⟨33, 32, none, ([] : List Hsh).length, 0, hsc ([] : List Hsh)⟩] := by
        intro hpos x hx hh
        have hlt := hr.lt (by rw [hsc_length]; omega) x hx
        rcases HS.new x (by simp [ids] at hh ⊢; rcases hh with hh | hh <;> simp [hh]) with h1 | h1
        · omega
        · cases h1
      refine sx_call HF Tryd.func17 (by kernel_rfl) (by kernel_rfl) (evs_cons rfl (evs_cons rfl evs_nil)) (append9_any g5 0 [] l none a 0 c w ⟨HS.blk _ List.mem_cons_self, HS.row _ List.mem_cons_self⟩ (hr.below HS.kp) (by omega) rfl ((HS.sub (L' := [⟨g5, sgA (rgS ((0 : Nat) : Int) none ([] : List Hsh).length 0), 101⟩]) (R' := [⟨33, 32, none, ([] : List Hsh).length, 0, hsc ([] : List Hsh)⟩]) (List.Sublist.cons_cons _ (List.nil_sublist _)) (List.Sublist.cons_cons _ (List.nil_sublist _))).low (by simp) h2) hdis (hT.below HS.kp) (hL.below HS.kp) (Nat.le_trans h2 HS.kp.size)) rfl rfl ?_; clear HF ac
      rintro _ w ⟨rfl, a5, c5, k1⟩
      rw [hap0, Nat.zero_add] at k1
      refine ⟨_, rfl, fun ac HF => ?_⟩
      replace HS : St [] w0 [⟨g5, sgA (rgS ((l.length : Nat) : Int) a5 (peaksOf l).length c5), 101⟩] [⟨33, 32, a5, (peaksOf l).length, c5, hsc (peaksOf l)⟩] w := St.upd (L1 := [_]) (L := []) (R1 := [_]) (R := []) HS k1
      clear k1 hdis
      refine sx_y HF HS (yl_neq rfl rfl (decide_eq_false (by exact (fun h => h rfl)))) rfl rfl ?_; clear HF ac; intro ac HF
      refine sx_y HF HS (yl_pick (b := false) rfl rfl) rfl rfl ?_; clear HF ac; intro ac HF
      refine wpList_nil ?_
      refine then_n ?_
      refine cx_false HF rfl ?_
      refine wp_skip ?_
      refine then_n ?_
      refine wp_seq ?_
      refine wp_region_lit ?_
      refine sx_y HF HS (yl_move rfl) rfl rfl ?_; clear HF ac; intro ac HF
      refine sx_call HF Tryd.func24 (by kernel_rfl) (by kernel_rfl) (evs_cons rfl evs_nil) (cbytes_any g5 l.length (peaksOf l) a5 c5 w ⟨HS.blk _ List.mem_cons_self, HS.row _ List.mem_cons_self⟩ (by omega)) rfl rfl ?_; clear HF ac
      rintro _ w ⟨a32, c32, rfl, k1⟩
      refine ⟨_, rfl, fun ac HF => ?_⟩
      replace HS := HS.joinR1 k1
      clear k1
      refine sx_call HF Tryd.func26 (by kernel_rfl) (by kernel_rfl) (evs_cons rfl evs_nil) (parse9_ok (rgB l.length (peaksOf l)) a32 c32 l.length w HS.row0 (by omega) hpS hpO) rfl rfl ?_; clear HF ac
      rintro _ w ⟨g6, a6, c6, rfl, k1⟩
      rw [hpH] at k1
      refine ⟨_, rfl, fun ac HF => ?_⟩
      replace HS : St [] w0 [⟨g6, sgA (rgS ((l.length : Nat) : Int) a6 (peaksOf l).length c6), 101⟩, ⟨g5, sgA (rgS ((l.length : Nat) : Int) a5 (peaksOf l).length c5), 101⟩] [⟨33, 32, a6, (peaksOf l).length, c6, hsc (peaksOf l)⟩, ⟨5, 1, a32, (rgB l.length (peaksOf l)).length, c32, bcs (rgB l.length (peaksOf l))⟩, ⟨33, 32, a5, (peaksOf l).length, c5, hsc (peaksOf l)⟩] w := HS.join k1
      clear k1
      refine sx_y HF HS (yl_move rfl) rfl rfl ?_; clear HF ac; intro ac HF
      refine sx_y HF HS (yl_extract rfl rfl) rfl rfl ?_; clear HF ac; intro ac HF
      refine sx_y HF HS (yl_extract rfl rfl) rfl rfl ?_; clear HF ac; intro ac HF
      refine sx_y HF HS (yl_assign rfl) rfl rfl ?_; clear HF ac; intro ac HF
      refine sx_y HF HS (yl_assign rfl) rfl rfl ?_; clear HF ac; intro ac HF
      refine wpList_nil ?_
      refine then_n ?_
      refine wp_seq ?_
      refine wp_region_lit ?_
      refine sx_y HF HS (yl_move rfl) rfl rfl ?_; clear HF ac; intro ac HF
      refine sx_call HF Tryd.func28 (by kernel_rfl) (by kernel_rfl) (evs_cons rfl evs_nil) (copy9_any g5 l.length (peaksOf l) a5 c5 w ⟨HS.blk _ (List.mem_cons_of_mem _ List.mem_cons_self), HS.row _ (List.mem_cons_of_mem _ (List.mem_cons_of_mem _ List.mem_cons_self))⟩ (by omega)) rfl rfl ?_; clear HF ac
      rintro _ w ⟨g8, a8, c8, rfl, k1⟩
      refine ⟨_, rfl, fun ac HF => ?_⟩
      replace HS : St [] w0 [⟨g8, sgA (rgS ((l.length : Nat) : Int) a8 (peaksOf l).length c8), 101⟩, ⟨g6, sgA (rgS ((l.length : Nat) : Int) a6 (peaksOf l).length c6), 101⟩, ⟨g5, sgA (rgS ((l.length : Nat) : Int) a5 (peaksOf l).length c5), 101⟩] [⟨33, 32, a8, (peaksOf l).length, c8, hsc (peaksOf l)⟩, ⟨33, 32, a6, (peaksOf l).length, c6, hsc (peaksOf l)⟩, ⟨5, 1, a32, (rgB l.length (peaksOf l)).length, c32, bcs (rgB l.length (peaksOf l))⟩, ⟨33, 32, a5, (peaksOf l).length, c5, hsc (peaksOf l)⟩] w := HS.join k1
      clear k1
      refine sx_y HF HS (yl_assign rfl) rfl rfl ?_; clear HF ac; intro ac HF
      refine wpList_nil ?_
      refine then_n ?_
      refine wp_seq ?_
      refine wp_seq ?_
      refine wp_region_lit ?_
      refine sx_y HF HS (yl_move rfl) rfl rfl ?_; clear HF ac; intro ac HF
      refine sx_y HF HS (yl_neq rfl rfl (decide_eq_false (by exact (fun h => h rfl)))) rfl rfl ?_; clear HF ac; intro ac HF
      refine sx_y HF HS (yl_move rfl) rfl rfl ?_; clear HF ac; intro ac HF
      refine sx_y HF HS (yl_move rfl) rfl rfl ?_; clear HF ac; intro ac HF
      refine sx_y HF HS (yl_eqPtr Tryd.underlying25 rfl rfl (by exact rfl)) rfl rfl ?_; clear HF ac; intro ac HF
      refine sx_y HF HS (yl_pick (b := false) rfl rfl) rfl rfl ?_; clear HF ac; intro ac HF
      refine sx_y HF HS (yl_move rfl) rfl rfl ?_; clear HF ac; intro ac HF
      refine sx_y HF HS (yl_move rfl) rfl rfl ?_; clear HF ac; intro ac HF
      refine sx_y HF HS (yl_eqPtr Tryd.underlying25 rfl rfl (by exact rfl)) rfl rfl ?_; clear HF ac; intro ac HF
      refine sx_y HF HS (yl_pick (b := false) rfl rfl) rfl rfl ?_; clear HF ac; intro ac HF
      refine sx_y HF HS (yl_move rfl) rfl rfl ?_; clear HF ac; intro ac HF
      refine sx_y HF HS (yl_move rfl) rfl rfl ?_; clear HF ac; intro ac HF
      refine sx_y HF HS (yl_move rfl) rfl rfl ?_; clear HF ac; intro ac HF
      have hne : g6 ≠ g5 := by
        have hnd := HS.nd
        simp [ids] at hnd
        omega
      refine sx_call HF Tryd.func29 (by kernel_rfl) (by kernel_rfl) (evs_cons rfl (evs_cons rfl evs_nil)) (equal9_any g6 l.length (peaksOf l) a6 c6 g5 l.length (peaksOf l) a5 c5 w ⟨HS.blk _ (List.mem_cons_of_mem _ List.mem_cons_self), HS.row _ (List.mem_cons_of_mem _ List.mem_cons_self)⟩ ⟨HS.blk _ (List.mem_cons_of_mem _ (List.mem_cons_of_mem _ List.mem_cons_self)), HS.row _ (List.mem_cons_of_mem _ (List.mem_cons_of_mem _ (List.mem_cons_of_mem _ List.mem_cons_self)))⟩ hne) rfl rfl ?_; clear HF ac
      rintro _ w ⟨rfl, k1⟩
      rw [decide_eq_true (And.intro rfl rfl)]
      refine ⟨_, rfl, fun ac HF => ?_⟩
      replace HS := HS.call k1
      clear k1 hne
      refine sx_y HF HS (yl_not rfl) rfl rfl ?_; clear HF ac; intro ac HF
      refine sx_y HF HS (yl_pick (b := false) rfl rfl) rfl rfl ?_; clear HF ac; intro ac HF
      refine sx_y HF HS (yl_move rfl) rfl rfl ?_; clear HF ac; intro ac HF
      refine sx_y HF HS (yl_move rfl) rfl rfl ?_; clear HF ac; intro ac HF
      refine sx_y HF HS (yl_move rfl) rfl rfl ?_; clear HF ac; intro ac HF
      have hne : g8 ≠ g5 := by
        have hnd := HS.nd
        simp [ids] at hnd
        omega
      refine sx_call HF Tryd.func29 (by kernel_rfl) (by kernel_rfl) (evs_cons rfl (evs_cons rfl evs_nil)) (equal9_any g8 l.length (peaksOf l) a8 c8 g5 l.length (peaksOf l) a5 c5 w ⟨HS.blk _ List.mem_cons_self, HS.row _ List.mem_cons_self⟩ ⟨HS.blk _ (List.mem_cons_of_mem _ (List.mem_cons_of_mem _ List.mem_cons_self)), HS.row _ (List.mem_cons_of_mem _ (List.mem_cons_of_mem _ (List.mem_cons_of_mem _ List.mem_cons_self)))⟩ hne) rfl rfl ?_; clear HF ac
      rintro _ w ⟨rfl, k1⟩
      rw [decide_eq_true (And.intro rfl rfl)]
      refine ⟨_, rfl, fun ac HF => ?_⟩
      replace HS := HS.call k1
      clear k1 hne
      refine sx_y HF HS (yl_not rfl) rfl rfl ?_; clear HF ac; intro ac HF
      refine sx_y HF HS (yl_pick (b := false) rfl rfl) rfl rfl ?_; clear HF ac; intro ac HF
      refine wpList_nil ?_
      refine then_n ?_
      refine cx_false HF rfl ?_
      refine wp_skip ?_
      refine then_n ?_
      refine wp_seq ?_
      refine wp_region_lit ?_
      refine sx_y HF HS (yl_move rfl) rfl rfl ?_; clear HF ac; intro ac HF
      refine sx_call HF Tryd.func22 (by kernel_rfl) (by kernel_rfl) (evs_cons rfl evs_nil) (peaks9_any g5 l.length (peaksOf l) a5 c5 w ⟨HS.blk _ (List.mem_cons_of_mem _ (List.mem_cons_of_mem _ List.mem_cons_self)), HS.row _ (List.mem_cons_of_mem _ (List.mem_cons_of_mem _ (List.mem_cons_of_mem _ List.mem_cons_self)))⟩ (by omega)) rfl rfl ?_; clear HF ac
      rintro _ w ⟨a61, c61, rfl, k1⟩
      refine ⟨_, rfl, fun ac HF => ?_⟩
      replace HS := HS.joinR1 k1
      clear k1
      refine sx_y HF HS (yl_assign rfl) rfl rfl ?_; clear HF ac; intro ac HF
      refine wpList_nil ?_
      refine then_n ?_
      refine wp_seq ?_
      refine wp_seq ?_
      refine wp_region_lit ?_
      refine sx_y HF HS (yl_move rfl) rfl rfl ?_; clear HF ac; intro ac HF
      refine sx_y HF HS (yl_len_slice Tryd.underlying22 rfl) rfl rfl ?_; clear HF ac; intro ac HF
      refine sx_y HF HS (yl_move rfl) rfl rfl ?_; clear HF ac; intro ac HF
      refine wpList_nil ?_
      refine then_n ?_
      refine wp_block ?_
      replace HF := HF.sub (m' := [(0, _), (1, _), (4, _), (5, _), (6, _), (8, _), (9, _), (63, _), (64, _)]) (by repeat (first | exact ag_nil | refine ag_cons rfl ?_))
      refine cx_loop (m := [(0, _), (1, _), (4, _), (5, _), (6, _), (8, _), (9, _), (63, _)]) (HF.sub (by repeat (first | exact ag_nil | refine ag_cons rfl ?_))) (fun m d ac w => ∃ (i : Nat) (qs : List Hsh), i ≤ qs.length ∧ qs.length = (peaksOf l).length ∧ d = (peaksOf l).length - i ∧ Fr ([(64, .int .i64 (i : Int))] ++ m) 123 ac ∧ St [] w0 [⟨g8, sgA (rgS ((l.length : Nat) : Int) a8 (peaksOf l).length c8), 101⟩, ⟨g6, sgA (rgS ((l.length : Nat) : Int) a6 (peaksOf l).length c6), 101⟩, ⟨g5, sgA (rgS ((l.length : Nat) : Int) a5 (peaksOf l).length c5), 101⟩] [⟨33, 32, a61, qs.length, c61, hsc qs⟩, ⟨33, 32, a8, (peaksOf l).length, c8, hsc (peaksOf l)⟩, ⟨33, 32, a6, (peaksOf l).length, c6, hsc (peaksOf l)⟩, ⟨5, 1, a32, (rgB l.length (peaksOf l)).length, c32, bcs (rgB l.length (peaksOf l))⟩, ⟨33, 32, a5, (peaksOf l).length, c5, hsc (peaksOf l)⟩] w) ?_ ?_
      · exact ⟨_, 0, _, Nat.zero_le _, rfl, rfl, HF.sub (by repeat (first | exact ag_nil | refine ag_cons rfl ?_)), HS⟩
      · clear HF HS ac w
        rintro d ac w ⟨i, qs, hi0, hql, rfl, HF, HS⟩
        refine wp_seq ?_
        refine wp_region_lit ?_
        refine sx_dec HF HS (yl_lss rfl rfl rfl) rfl rfl ?_ ?_ <;> clear HF ac <;> intro h12x0 ac HF
        · refine wpList_nil ?_
          refine then_n ?_
          refine wp_seq ?_
          refine cx_true HF rfl ?_
          refine wp_skip ?_
          refine then_n ?_
          refine wp_seq ?_
          refine wp_block ?_
          refine wp_seq ?_
          refine wp_region_lit ?_
          refine sx_y HF HS (yl_move rfl) rfl rfl ?_; clear HF ac; intro ac HF
          refine sx_y HF HS (yl_assign rfl) rfl rfl ?_; clear HF ac; intro ac HF
          refine wpList_nil ?_
          refine then_n ?_
          refine wp_region_lit ?_
          refine sx_y HF HS (yl_move rfl) rfl rfl ?_; clear HF ac; intro ac HF
          refine sx_y HF HS (yl_move rfl) rfl rfl ?_; clear HF ac; intro ac HF
          refine sx_y HF HS (bd_h1 (b := 9) Tryd.underlying33 sz5 zt33 rfl) rfl rfl ?_; clear HF ac; intro ac HF
          refine sx_y HF HS (ix_sl (k := i) Tryd.underlying22 sz33 rfl rfl (by omega) (fun h => hql ▸ HS.row0.nil0 h)) rfl rfl ?_; clear HF ac; intro ac HF
          refine sx_ef0 HF (ef_setH (s := qs) (k := i) HS sz33 rfl rfl (by omega)) rfl ?_; clear HS; rintro _ w HS
          refine wpList_nil ?_
          refine blk_n ?_
          refine then_n ?_
          refine wp_region_lit ?_
          refine sx_y HF HS (yl_add64 rfl rfl rfl (by omega)) rfl rfl ?_; clear HF ac; intro ac HF
          refine sx_y HF HS (yl_move rfl) rfl rfl ?_; clear HF ac; intro ac HF
          refine wpList_nil ?_
          refine then_n ?_
          refine ⟨_, ?_, i + 1, _, by rw [List.length_set]; omega, by rw [List.length_set]; exact hql, rfl, HF.sub (by repeat (first | exact ag_nil | refine ag_cons rfl ?_)), HS⟩
          omega
        · replace HS : St [] w0 [⟨g8, sgA (rgS ((l.length : Nat) : Int) a8 (peaksOf l).length c8), 101⟩, ⟨g6, sgA (rgS ((l.length : Nat) : Int) a6 (peaksOf l).length c6), 101⟩, ⟨g5, sgA (rgS ((l.length : Nat) : Int) a5 (peaksOf l).length c5), 101⟩] [⟨33, 32, a8, (peaksOf l).length, c8, hsc (peaksOf l)⟩, ⟨33, 32, a6, (peaksOf l).length, c6, hsc (peaksOf l)⟩, ⟨33, 32, a5, (peaksOf l).length, c5, hsc (peaksOf l)⟩] w := HS.sub (List.Sublist.refl _) (List.Sublist.cons _ (List.Sublist.cons_cons _ (List.Sublist.cons_cons _ (List.Sublist.cons _ (List.Sublist.refl _)))))
          refine wpList_nil ?_
          refine then_n ?_
          refine wp_seq ?_
          refine cx_false HF rfl ?_
          refine wp_exit ?_
          refine then_x ?_
          refine then_x ?_
          refine blk_hit ?_
          refine then_n ?_
          refine wp_seq ?_
          refine wp_seq ?_
          refine wp_region_lit ?_
          refine sx_y HF HS (yl_move rfl) rfl rfl ?_; clear HF ac; intro ac HF
          refine sx_y HF HS (yl_move rfl) rfl rfl ?_; clear HF ac; intro ac HF
          replace HS : St [] w0 [⟨g5, sgA (rgS ((l.length : Nat) : Int) a5 (peaksOf l).length c5), 101⟩, ⟨g8, sgA (rgS ((l.length : Nat) : Int) a8 (peaksOf l).length c8), 101⟩, ⟨g6, sgA (rgS ((l.length : Nat) : Int) a6 (peaksOf l).length c6), 101⟩] [⟨33, 32, a5, (peaksOf l).length, c5, hsc (peaksOf l)⟩, ⟨33, 32, a8, (peaksOf l).length, c8, hsc (peaksOf l)⟩, ⟨33, 32, a6, (peaksOf l).length, c6, hsc (peaksOf l)⟩] w := (HS.perm (List.perm_append_comm (l₁ := [_]) (l₂ := [_, _]))).rperm (List.perm_append_comm (l₁ := [_]) (l₂ := [_, _]))
          have hdis : 0 < more.length → ∀ x ∈ aF b, x ∉ ids [⟨g5, sgA (rgS ((l.length : Nat) : Int) a5 (peaksOf l).length c5), 101⟩] [⟨33, 32, a5, (peaksOf l).length, c5, hsc (peaksOf l)⟩] := by
            intro hpos x hx hh
            have hlt := hm.lt (by rw [hsc_length]; omega) x hx
            rcases HS.new x (by simp [ids] at hh ⊢; rcases hh with hh | hh <;> simp [hh]) with h1 | h1
            · omega
            · cases h1
          refine sx_call HF Tryd.func17 (by kernel_rfl) (by kernel_rfl) (evs_cons rfl (evs_cons rfl evs_nil)) (append9_any g5 l.length (peaksOf l) more a5 b c5 e w ⟨HS.blk _ List.mem_cons_self, HS.row _ List.mem_cons_self⟩ (hm.below HS.kp) (by omega) hpop0 ((HS.sub (L' := [⟨g5, sgA (rgS ((l.length : Nat) : Int) a5 (peaksOf l).length c5), 101⟩]) (R' := [⟨33, 32, a5, (peaksOf l).length, c5, hsc (peaksOf l)⟩]) (List.Sublist.cons_cons _ (List.nil_sublist _)) (List.Sublist.cons_cons _ (List.nil_sublist _))).low (by simp) h2) hdis (hT.below HS.kp) (hL.below HS.kp) (Nat.le_trans h2 HS.kp.size)) rfl rfl ?_; clear HF ac
          rintro _ w ⟨rfl, a15, c15, k1⟩
          rw [hap1] at k1
          refine ⟨_, rfl, fun ac HF => ?_⟩
          replace HS : St [] w0 [⟨g5, sgA (rgS (((l.length + more.length) : Nat) : Int) a15 (peaksOf (l ++ more)).length c15), 101⟩, ⟨g8, sgA (rgS ((l.length : Nat) : Int) a8 (peaksOf l).length c8), 101⟩, ⟨g6, sgA (rgS ((l.length : Nat) : Int) a6 (peaksOf l).length c6), 101⟩] [⟨33, 32, a15, (peaksOf (l ++ more)).length, c15, hsc (peaksOf (l ++ more))⟩, ⟨33, 32, a8, (peaksOf l).length, c8, hsc (peaksOf l)⟩, ⟨33, 32, a6, (peaksOf l).length, c6, hsc (peaksOf l)⟩] w := St.upd (L1 := [_]) (L := [_, _]) (R1 := [_]) (R := [_, _]) HS k1
          clear k1 hdis
          refine sx_y HF HS (yl_neq rfl rfl (decide_eq_false (by exact (fun h => h rfl)))) rfl rfl ?_; clear HF ac; intro ac HF
          refine sx_y HF HS (yl_move rfl) rfl rfl ?_; clear HF ac; intro ac HF
          refine sx_y HF HS (yl_move rfl) rfl rfl ?_; clear HF ac; intro ac HF
          refine sx_y HF HS (yl_move rfl) rfl rfl ?_; clear HF ac; intro ac HF
          replace HS : St [] w0 [⟨g6, sgA (rgS ((l.length : Nat) : Int) a6 (peaksOf l).length c6), 101⟩, ⟨g5, sgA (rgS (((l.length + more.length) : Nat) : Int) a15 (peaksOf (l ++ more)).length c15), 101⟩, ⟨g8, sgA (rgS ((l.length : Nat) : Int) a8 (peaksOf l).length c8), 101⟩] [⟨33, 32, a6, (peaksOf l).length, c6, hsc (peaksOf l)⟩, ⟨33, 32, a15, (peaksOf (l ++ more)).length, c15, hsc (peaksOf (l ++ more))⟩, ⟨33, 32, a8, (peaksOf l).length, c8, hsc (peaksOf l)⟩] w := (HS.perm (List.perm_append_comm (l₁ := [_]) (l₂ := [_, _]))).rperm (List.perm_append_comm (l₁ := [_]) (l₂ := [_, _]))
          have hdis : 0 < more.length → ∀ x ∈ aF b, x ∉ ids [⟨g6, sgA (rgS ((l.length : Nat) : Int) a6 (peaksOf l).length c6), 101⟩] [⟨33, 32, a6, (peaksOf l).length, c6, hsc (peaksOf l)⟩] := by
            intro hpos x hx hh
            have hlt := hm.lt (by rw [hsc_length]; omega) x hx
            rcases HS.new x (by simp [ids] at hh ⊢; rcases hh with hh | hh <;> simp [hh]) with h1 | h1
            · omega
            · cases h1
          refine sx_call HF Tryd.func17 (by kernel_rfl) (by kernel_rfl) (evs_cons rfl (evs_cons rfl evs_nil)) (append9_any g6 l.length (peaksOf l) more a6 b c6 e w ⟨HS.blk _ List.mem_cons_self, HS.row _ List.mem_cons_self⟩ (hm.below HS.kp) (by omega) hpop0 ((HS.sub (L' := [⟨g6, sgA (rgS ((l.length : Nat) : Int) a6 (peaksOf l).length c6), 101⟩]) (R' := [⟨33, 32, a6, (peaksOf l).length, c6, hsc (peaksOf l)⟩]) (List.Sublist.cons_cons _ (List.nil_sublist _)) (List.Sublist.cons_cons _ (List.nil_sublist _))).low (by simp) h2) hdis (hT.below HS.kp) (hL.below HS.kp) (Nat.le_trans h2 HS.kp.size)) rfl rfl ?_; clear HF ac
          rintro _ w ⟨rfl, a16, c16, k1⟩
          rw [hap1] at k1
          refine ⟨_, rfl, fun ac HF => ?_⟩
          replace HS : St [] w0 [⟨g6, sgA (rgS (((l.length + more.length) : Nat) : Int) a16 (peaksOf (l ++ more)).length c16), 101⟩, ⟨g5, sgA (rgS (((l.length + more.length) : Nat) : Int) a15 (peaksOf (l ++ more)).length c15), 101⟩, ⟨g8, sgA (rgS ((l.length : Nat) : Int) a8 (peaksOf l).length c8), 101⟩] [⟨33, 32, a16, (peaksOf (l ++ more)).length, c16, hsc (peaksOf (l ++ more))⟩, ⟨33, 32, a15, (peaksOf (l ++ more)).length, c15, hsc (peaksOf (l ++ more))⟩, ⟨33, 32, a8, (peaksOf l).length, c8, hsc (peaksOf l)⟩] w := St.upd (L1 := [_]) (L := [_, _]) (R1 := [_]) (R := [_, _]) HS k1
          clear k1 hdis
          refine sx_y HF HS (yl_neq rfl rfl (decide_eq_false (by exact (fun h => h rfl)))) rfl rfl ?_; clear HF ac; intro ac HF
          refine sx_y HF HS (yl_pick (b := false) rfl rfl) rfl rfl ?_; clear HF ac; intro ac HF
          refine wpList_nil ?_
          refine then_n ?_
          refine cx_false HF rfl ?_
          refine wp_skip ?_
          refine then_n ?_
          refine wp_seq ?_
          refine wp_region_lit ?_
          refine sx_ef HF (ef_lit (n := 0) HS sl22 (parts := #[]) evs_nil rfl rfl (s := []) rfl (by simp)) rfl rfl ?_; clear HF HS ac; rintro _ w ac ⟨g82, rfl, HS⟩ HF
          replace HS := HS.toRow (n := 0) (size := 32) (ys := []) rfl (by decide) rfl
          refine sx_y HF HS (yl_move rfl) rfl rfl ?_; clear HF ac; intro ac HF
          refine sx_ef HF (ef_append (n' := l.length) (ys := hsc l) HS sl22 rfl rfl (hr.below HS.kp) (hsc_one _) (Nat.zero_add _) (by omega) (List.nil_append _)) rfl rfl ?_; clear HF HS ac; rintro _ w ac ⟨a84, c84, rfl, HS⟩ HF
          refine sx_y HF HS (yl_move rfl) rfl rfl ?_; clear HF ac; intro ac HF
          refine sx_ef HF (ef_append (n' := (l ++ more).length) (ys := hsc (l ++ more)) HS sl22 rfl rfl (hm.below HS.kp) (hsc_one _) hla.symm (by omega) (hsc_app _ _).symm) rfl rfl ?_; clear HF HS ac; rintro _ w ac ⟨a86, c86, rfl, HS⟩ HF
          refine sx_y HF HS (yl_assign rfl) rfl rfl ?_; clear HF ac; intro ac HF
          refine wpList_nil ?_
          refine then_n ?_
          refine wp_seq ?_
          refine wp_region_lit ?_
          refine sx_y HF HS (yl_move rfl) rfl rfl ?_; clear HF ac; intro ac HF
          refine sx_y HF HS (yl_move rfl) rfl rfl ?_; clear HF ac; intro ac HF
          have hne : g6 ≠ g5 := by
            have hnd := HS.nd
            simp [ids] at hnd
            omega
          refine sx_call HF Tryd.func29 (by kernel_rfl) (by kernel_rfl) (evs_cons rfl (evs_cons rfl evs_nil)) (equal9_any g6 (l.length + more.length) (peaksOf (l ++ more)) a16 c16 g5 (l.length + more.length) (peaksOf (l ++ more)) a15 c15 w ⟨HS.blk _ List.mem_cons_self, HS.row _ (List.mem_cons_of_mem _ List.mem_cons_self)⟩ ⟨HS.blk _ (List.mem_cons_of_mem _ List.mem_cons_self), HS.row _ (List.mem_cons_of_mem _ (List.mem_cons_of_mem _ List.mem_cons_self))⟩ hne) rfl rfl ?_; clear HF ac
          rintro _ w ⟨rfl, k1⟩
          rw [decide_eq_true (And.intro rfl rfl)]
          refine ⟨_, rfl, fun ac HF => ?_⟩
          replace HS := HS.call k1
          clear k1 hne
          refine sx_y HF HS (yl_move rfl) rfl rfl ?_; clear HF ac; intro ac HF
          refine sx_y HF HS (yl_move rfl) rfl rfl ?_; clear HF ac; intro ac HF
          refine sx_call HF Tryd.func23 (by kernel_rfl) (by kernel_rfl) (evs_cons rfl evs_nil) (root9_any g5 (l.length + more.length) (peaksOf (l ++ more)) a15 c15 w ⟨HS.blk _ (List.mem_cons_of_mem _ List.mem_cons_self), HS.row _ (List.mem_cons_of_mem _ (List.mem_cons_of_mem _ List.mem_cons_self))⟩ hpop1 (by omega) (hL.below HS.kp) (Nat.le_trans h2 HS.kp.size)) rfl rfl ?_; clear HF ac
          rintro _ w ⟨rfl, k1⟩
          rw [hrt1]
          refine ⟨_, rfl, fun ac HF => ?_⟩
          replace HS := HS.call k1
          clear k1
          refine sx_y HF HS (yl_move rfl) rfl rfl ?_; clear HF ac; intro ac HF
          refine sx_call HF Tryd.func19 (by kernel_rfl) (by kernel_rfl) (evs_cons rfl evs_nil) (root09_any (l ++ more) a86 c86 w HS.row0 (by omega) (hL.below HS.kp) (Nat.le_trans h2 HS.kp.size)) rfl rfl ?_; clear HF ac
          rintro _ w ⟨rfl, k1⟩
          refine ⟨_, rfl, fun ac HF => ?_⟩
          replace HS := HS.call k1
          clear k1
          refine sx_y HF HS (Tryd.yl_eqH rfl rfl (decide_eq_true (by exact rfl))) rfl rfl ?_; clear HF ac; intro ac HF
          refine sx_y HF HS (yl_pick (b := true) rfl rfl) rfl rfl ?_; clear HF ac; intro ac HF
          refine sx_y HF HS (yl_move rfl) rfl rfl ?_; clear HF ac; intro ac HF
          refine sx_y HF HS (yl_move rfl) rfl rfl ?_; clear HF ac; intro ac HF
          refine sx_call HF Tryd.func20 (by kernel_rfl) (by kernel_rfl) (evs_cons rfl evs_nil) (size9_any g8 _ _ _ _ w (HS.blk _ (List.mem_cons_of_mem _ (List.mem_cons_of_mem _ List.mem_cons_self)))) rfl rfl ?_; clear HF ac
          rintro _ w ⟨rfl, k1⟩
          refine ⟨_, rfl, fun ac HF => ?_⟩
          replace HS := HS.call k1
          clear k1
          refine sx_y HF HS (yl_move rfl) rfl rfl ?_; clear HF ac; intro ac HF
          refine sx_y HF HS (yl_len_slice Tryd.underlying22 rfl) rfl rfl ?_; clear HF ac; intro ac HF
          refine sx_y HF HS (yl_eql rfl rfl (decide_eq_true (by exact rfl))) rfl rfl ?_; clear HF ac; intro ac HF
          refine sx_y HF HS (yl_pick (b := true) rfl rfl) rfl rfl ?_; clear HF ac; intro ac HF
          refine sx_y HF HS (yl_move rfl) rfl rfl ?_; clear HF ac; intro ac HF
          refine sx_y HF HS (yl_move rfl) rfl rfl ?_; clear HF ac; intro ac HF
          refine sx_call HF Tryd.func23 (by kernel_rfl) (by kernel_rfl) (evs_cons rfl evs_nil) (root9_any g8 l.length (peaksOf l) a8 c8 w ⟨HS.blk _ (List.mem_cons_of_mem _ (List.mem_cons_of_mem _ List.mem_cons_self)), HS.row _ (List.mem_cons_of_mem _ (List.mem_cons_of_mem _ (List.mem_cons_of_mem _ List.mem_cons_self)))⟩ hpop0 (by omega) (hL.below HS.kp) (Nat.le_trans h2 HS.kp.size)) rfl rfl ?_; clear HF ac
          rintro _ w ⟨rfl, k1⟩
          rw [hrt0]
          refine ⟨_, rfl, fun ac HF => ?_⟩
          replace HS := HS.call k1
          clear k1
          refine sx_y HF HS (yl_move rfl) rfl rfl ?_; clear HF ac; intro ac HF
          refine sx_call HF Tryd.func19 (by kernel_rfl) (by kernel_rfl) (evs_cons rfl evs_nil) (root09_any l a c w (hr.below HS.kp) (by omega) (hL.below HS.kp) (Nat.le_trans h2 HS.kp.size)) rfl rfl ?_; clear HF ac
          rintro _ w ⟨rfl, k1⟩
          refine ⟨_, rfl, fun ac HF => ?_⟩
          replace HS := HS.call k1
          clear k1
          refine sx_y HF HS (Tryd.yl_eqH rfl rfl (decide_eq_true (by exact rfl))) rfl rfl ?_; clear HF ac; intro ac HF
          refine sx_y HF HS (yl_pick (b := true) rfl rfl) rfl rfl ?_; clear HF ac; intro ac HF
          refine sx_y HF HS (yl_move rfl) rfl rfl ?_; clear HF ac; intro ac HF
          refine sx_y HF HS (yl_move rfl) rfl rfl ?_; clear HF ac; intro ac HF
          refine sx_y HF HS (yl_move rfl) rfl rfl ?_; clear HF ac; intro ac HF
          have hne : g8 ≠ g5 := by
            have hnd := HS.nd
            simp [ids] at hnd
            omega
          refine sx_call HF Tryd.func29 (by kernel_rfl) (by kernel_rfl) (evs_cons rfl (evs_cons rfl evs_nil)) (equal9_any g8 l.length (peaksOf l) a8 c8 g5 (l.length + more.length) (peaksOf (l ++ more)) a15 c15 w ⟨HS.blk _ (List.mem_cons_of_mem _ (List.mem_cons_of_mem _ List.mem_cons_self)), HS.row _ (List.mem_cons_of_mem _ (List.mem_cons_of_mem _ (List.mem_cons_of_mem _ List.mem_cons_self)))⟩ ⟨HS.blk _ (List.mem_cons_of_mem _ List.mem_cons_self), HS.row _ (List.mem_cons_of_mem _ (List.mem_cons_of_mem _ List.mem_cons_self))⟩ hne) rfl rfl ?_; clear HF ac
          rintro _ w ⟨rfl, k1⟩
          rw [heq27]
          refine ⟨_, rfl, fun ac HF => ?_⟩
          replace HS := HS.call k1
          clear k1 hne
          refine sx_y HF HS (yl_move rfl) rfl rfl ?_; clear HF ac; intro ac HF
          refine sx_y HF HS (yl_len_slice Tryd.underlying22 rfl) rfl rfl ?_; clear HF ac; intro ac HF
          refine sx_y HF HS (yl_eql rfl rfl rfl) rfl rfl ?_; clear HF ac; intro ac HF
          refine sx_y HF HS (yl_eqB Tryd.underlying4 rfl rfl (decide_eq_true rfl)) rfl rfl ?_; clear HF ac; intro ac HF
          refine sx_y HF HS (yl_pick (b := true) rfl rfl) rfl rfl ?_; clear HF ac; intro ac HF
          refine sx_y HF HS (yl_move rfl) rfl rfl ?_; clear HF ac; intro ac HF
          refine sx_call HF Tryd.func15 (by kernel_rfl) (by kernel_rfl) evs_nil (awake9_any w (hT.below HS.kp) (hL.below HS.kp) (Nat.le_trans h2 HS.kp.size)) rfl rfl ?_; clear HF ac
          rintro _ w ⟨rfl, k1⟩
          refine ⟨_, rfl, fun ac HF => ?_⟩
          replace HS := HS.call k1
          clear k1
          refine sx_y HF HS (yl_pick (b := true) rfl rfl) rfl rfl ?_; clear HF ac; intro ac HF
          refine sx_y HF HS (yl_assign rfl) rfl rfl ?_; clear HF ac; intro ac HF
          refine wpList_nil ?_
          refine then_n ?_
          refine wp_ret ?_
          exact rt1 rfl HF HS rfl ⟨rfl, HS.kp⟩

end Go.Proofs.YtalnkhgonfcabaaDoor.compactGoes
