/-
  proof.Both: the two roots that a proof leads to. (Printed by gen_prf6.py.)
-/
import Derived.Test.YtalnkhgonfcabaaDoorPrf5
import Derived.Test.YtalnkhgonfcabaaDoorInv
namespace Go.Proofs.YtalnkhgonfcabaaDoor
open Go.RowKit

def bothV : Option (Hsh × Hsh) → Value
  | some (f, s) => .tuple #[.agg (hcs f).toArray, .agg (hcs s).toArray, .int .i64 0]
  | none => .tuple #[.agg (hcs zeroH).toArray, .agg (hcs zeroH).toArray, .int .i64 22]

theorem alloc3a (w : World) (x y z : Array Value) (t u v : TypeId) : (((w.alloc (.cells x t)).alloc (.cells y u)).alloc (.cells z v)).heap[w.heap.size]? = some (.cells x t (0, 0)) :=
  (Below.heap_alloc _ _ _ (by simp; omega)).trans (alloc1 w x y t u)
theorem alloc3b (w : World) (x y z : Array Value) (t u v : TypeId) : (((w.alloc (.cells x t)).alloc (.cells y u)).alloc (.cells z v)).heap[w.heap.size + 1]? = some (.cells y u (0, 0)) :=
  (Below.heap_alloc _ _ _ (by simp)).trans (alloc2 w x y t u)

theorem both_bad (m n : Int) (old : Hsh) (v : Value) (w : World) (h : m < 0 ∨ n < m) :
    Calls Tryd.prog 108 #[.int .i64 m, .int .i64 n, hv old, v] w fun e w' => e = .returned (.tuple #[.agg (hcs zeroH).toArray, .agg (hcs zeroH).toArray, .int .i64 11]) ∧ Kp [] w w' := by
  have h' : m < 0 ∨ (¬ m < 0 ∧ n < m) := by omega
  have HG8 := Lib.hid (alloc3b w (hvA old) (hvA zeroH) (hvA zeroH) 33 33 33)
  have HG9 := Lib.hid (alloc3 w (hvA old) (hvA zeroH) (hvA zeroH) 33 33 33)
  have K0 := Lib.hid ((((Kp.refl [] w).alloc (.cells (hvA old) 33)).alloc (.cells (hvA zeroH) 33)).alloc (.cells (hvA zeroH) 33))
  have tokA : True := trivial
  clear h
  rcases h' with h | ⟨h0, h⟩
  all_goals
    go_enter Tryd.func108, Tryd.ntmps108
    go_wp2_with (first
      | (have _t := tokA; refine wpList_set Tryd.thash rfl rfl HG8.out (hvA_size _) (hvA_size zeroH) (hvA_one _) rfl rfl ?_; clear tokA; intro w8 h8 k8 s8; have H8 := Lib.hid h8; have K8 := Lib.hid (K0.out.trans k8 (fun x hx hlt => by simp at hx; omega)); have HG98 := Lib.hid ((k8.block _ (lt_of_block HG9.out) (by simp)).trans HG9.out); clear h8 k8 s8)
      | (refine wpList_set Tryd.thash rfl rfl HG98.out (hvA_size _) (hvA_size zeroH) (hvA_one _) rfl rfl ?_; intro w9 h9 k9 s9))
    refine ret_block2_tmp Tryd.thash rfl ((k9.block _ (lt_of_block H8.out) (by simp)).trans H8.out) (hvA_size _) rfl h9 (hvA_size _) rfl rfl rfl ⟨rfl, ?_⟩
    exact K8.out.trans k9 (fun x hx hlt => by simp at hx; omega)

theorem both_ends_bad (m n : Nat) (old : Hsh) (a : Option Addr) (k c : Nat) (w : World) (h : m = 0 ∨ m = n) (hmn : m ≤ n) (hk : 0 < k) :
    Calls Tryd.prog 108 #[.int .i64 m, .int .i64 n, hv old, .slice a k c] w fun e w' => e = .returned (bothV none) ∧ Kp [] w w' := by
  have HG8 := Lib.hid (alloc3b w (hvA old) (hvA zeroH) (hvA zeroH) 33 33 33)
  have HG9 := Lib.hid (alloc3 w (hvA old) (hvA zeroH) (hvA zeroH) 33 33 33)
  have K0 := Lib.hid ((((Kp.refl [] w).alloc (.cells (hvA old) 33)).alloc (.cells (hvA zeroH) 33)).alloc (.cells (hvA zeroH) 33))
  have tokA : True := trivial
  have d1 : ¬ (m : Int) < 0 := by omega
  have d2 : ¬ (m : Int) > (n : Int) := by omega
  have d5 : (k : Int) > 0 := by omega
  have h' : (((m : Int) == 0) = true) ∨ (((m : Int) == 0) = false ∧ ((m : Int) == (n : Int)) = true) := by
    by_cases h0 : m = 0
    · exact .inl (by rw [beq_iff_eq]; omega)
    · exact .inr ⟨by rw [beq_eq_false_iff_ne]; omega, by rw [beq_iff_eq]; omega⟩
  clear h
  rcases h' with h | ⟨h0, h⟩
  all_goals
    go_enter Tryd.func108, Tryd.ntmps108
    go_wp2_with (first
      | (have _t := tokA; refine wpList_set Tryd.thash rfl rfl HG8.out (hvA_size _) (hvA_size zeroH) (hvA_one _) rfl rfl ?_; clear tokA; intro w8 h8 k8 s8; have H8 := Lib.hid h8; have K8 := Lib.hid (K0.out.trans k8 (fun x hx hlt => by simp at hx; omega)); have HG98 := Lib.hid ((k8.block _ (lt_of_block HG9.out) (by simp)).trans HG9.out); clear h8 k8 s8)
      | (refine wpList_set Tryd.thash rfl rfl HG98.out (hvA_size _) (hvA_size zeroH) (hvA_one _) rfl rfl ?_; intro w9 h9 k9 s9))
    refine ret_block2_tmp Tryd.thash rfl ((k9.block _ (lt_of_block H8.out) (by simp)).trans H8.out) (hvA_size _) rfl h9 (hvA_size _) rfl rfl rfl ⟨rfl, ?_⟩
    exact K8.out.trans k9 (fun x hx hlt => by simp at hx; omega)

set_option maxRecDepth 100000 in
theorem both_ends_good (m n : Nat) (old : Hsh) (a : Option Addr) (c : Nat) (w : World) (h : m = 0 ∨ m = n) (hmn : m ≤ n) :
    Calls Tryd.prog 108 #[.int .i64 m, .int .i64 n, hv old, .slice a 0 c] w fun e w' => e = .returned (bothV (some (old, old))) ∧ Kp [] w w' := by
  have HG6 := Lib.hid (alloc3a w (hvA old) (hvA zeroH) (hvA zeroH) 33 33 33)
  have HG8 := Lib.hid (alloc3b w (hvA old) (hvA zeroH) (hvA zeroH) 33 33 33)
  have HG9 := Lib.hid (alloc3 w (hvA old) (hvA zeroH) (hvA zeroH) 33 33 33)
  have K0 := Lib.hid ((((Kp.refl [] w).alloc (.cells (hvA old) 33)).alloc (.cells (hvA zeroH) 33)).alloc (.cells (hvA zeroH) 33))
  have d1 : ¬ (m : Int) < 0 := by omega
  have d2 : ¬ (m : Int) > (n : Int) := by omega
  have h' : (((m : Int) == 0) = true) ∨ (((m : Int) == 0) = false ∧ ((m : Int) == (n : Int)) = true) := by
    by_cases h0 : m = 0
    · exact .inl (by rw [beq_iff_eq]; omega)
    · exact .inr ⟨by rw [beq_eq_false_iff_ne]; omega, by rw [beq_iff_eq]; omega⟩
  clear h
  obtain ⟨w0, hw0⟩ : ∃ w0, w0 = (((w.alloc (.cells (hvA old) 33)).alloc (.cells (hvA zeroH) 33)).alloc (.cells (hvA zeroH) 33)) := ⟨_, rfl⟩
  rw [← hw0] at HG6 HG8 HG9 K0
  have HW0 := Lib.hid hw0
  have hty : Tryd.prog.underlying 33 = some (.array 32 5) := Tryd.underlying33
  have hsO : (Tryd.prog.info? 33).map (·.size) = some (hcs old).length := by rw [hcs_length]; exact Tryd.thash.s
  clear hw0
  rcases h' with h | ⟨h0, h⟩
  all_goals
    go_enter Tryd.func108, Tryd.ntmps108
    go_wp2_with fail
    rw [zeroH_lit, show ((w.alloc (.cells (hvA old) 33)).alloc (.cells (hvA zeroH) 33)).alloc (.cells (hvA zeroH) 33) = w0 from HW0.out.symm]
    refine wp_region_held_drew (S := fun W => W.heap[w.heap.size]? = some (.cells (hvA old) 33 (0, 0))) (by kernel_rfl) HG6.out.drewB (fun hHeld => ?_)
    refine takeD (i := 0) (dst := (some 48)) (v := _) rfl rfl (by kernel_rfl) (by kernel_rfl) (by kernel_rfl) (fun _ _ _ h => h) (yieldsIf_load_mid (by rfl) _ _ rfl _ _ rfl _ _ (fun _ h => range_hv h) hty rfl hsO) (by assumption) ?_
    try simp only [Act.put, List.setIfInBounds_toArray, List.set_cons_zero, List.set_cons_succ]
    refine takeD (i := 1) (dst := (some 49)) (v := _) rfl rfl (by kernel_rfl) (by kernel_rfl) (by kernel_rfl) (fun _ _ _ h => h) (yieldsIf_load_mid (by rfl) _ _ rfl _ _ rfl _ _ (fun _ h => range_hv h) hty rfl hsO) (by assumption) ?_
    try simp only [Act.put, List.setIfInBounds_toArray, List.set_cons_zero, List.set_cons_succ]
    refine wpAnyH_ready (rs := [2]) (by kernel_rfl) (by simp) ?_
    refine AllReadyH.cons rfl (fun K hK => ?_) AllReadyH.nil
    rw [if_pos (by rfl)]
    refine wp_store_hash Tryd.thash rfl HG8.out.drewB (hvA_size _) (hvA_size old) (hvA_one _) rfl rfl ?_
    intro w8 h8 k8 s8
    have g98 := (k8.block _ (lt_of_block HG9.out) (by simp)).trans HG9.out
    refine hK.out _ _ ((k8.block _ (lt_of_block HG6.out) (by simp)).trans HG6.out) (fun hHeld2 => ?_)
    clear hK K
    try simp only [Act.put, List.setIfInBounds_toArray]
    refine wpAnyH_ready (rs := [3]) (by kernel_rfl) (by simp) ?_
    refine AllReadyH.cons rfl (fun K hK => ?_) AllReadyH.nil
    rw [if_pos (by rfl)]
    refine wp_store_hash Tryd.thash rfl g98 (hvA_size _) (hvA_size old) (hvA_one _) rfl rfl ?_
    intro w9 h9 k9 s9
    refine hK.out _ _ ((k9.block _ (lt_of_block hHeld2) (by simp; omega)).trans hHeld2) (fun hHeld3 => ?_)
    clear hK K
    try simp only [Act.put]
    refine takeD (i := 4) (dst := (some 10)) (v := ?_) rfl rfl (by kernel_rfl) (by kernel_rfl) (by kernel_rfl) (fun _ _ _ h => h) (Or.inl ⟨by rfl, ?_⟩) (by assumption) ?_
    rotate_left
    · intro w' hSw
      go_simp
      all_goals (with_reducible rfl)
    try simp only [Act.put]
    refine wpAnyH_done (by kernel_rfl) ?_ _
    have H8 := Lib.hid ((k9.block _ (lt_of_block h8) (by simp)).trans h8)
    have H9 := Lib.hid h9
    have KK := Lib.hid ((K0.out.drew.trans k8 (fun x hx hlt => by simp at hx; omega)).trans k9 (fun x hx hlt => by simp at hx; omega))
    clear h8 h9 k8 k9 s8 s9 g98 hHeld hHeld2 hHeld3 hty hsO
    go_wp2
    exact ret_block2_tmp Tryd.thash rfl H8.out (hvA_size _) rfl H9.out (hvA_size _) rfl rfl rfl ⟨rfl, KK.out⟩
end Go.Proofs.YtalnkhgonfcabaaDoor
