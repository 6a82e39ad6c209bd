/-
  proof.In: is a leaf in a list?
-/
import Derived.Test.YtalnkhgonfcabaaDoorPrf2
namespace Go.Proofs.YtalnkhgonfcabaaDoor
open Go.RowKit

def inV (root : Hsh) : Option Hsh → Int
  | some r => if r = root then 0 else 22
  | none => 22

theorem in_bad (leaf root : Hsh) (i n : Int) (v : Value) (w : World) (h : i < 0 ∨ n ≤ i) :
    Calls Tryd.prog 59 #[hv leaf, .int .i64 i, .int .i64 n, v, hv root] w fun e w' => e = .returned (.int .i64 11) ∧ Kp [] w w' := by
  have HG5 := Lib.hid (alloc1 w (hvA leaf) (hvA root) 33 33)
  have K0 := Lib.hid (((Kp.refl [] w).alloc (.cells (hvA leaf) 33)).alloc (.cells (hvA root) 33))
  have HC := Lib.hid (fun W => lead_bad leaf i n v W h)
  clear h
  go_enter Tryd.func59, Tryd.ntmps59
  go_wp2_with (refine wpList_get Tryd.thash rfl rfl HG5.out (hvA_size _) rfl ?_)
  refine (HC.out _).mono ?_
  rintro e w1 ⟨rfl, k1⟩
  have K1 := Lib.hid (K0.out.trans k1 (by simp))
  clear k1
  go_wp2_with (refine wpList_set Tryd.thash rfl rfl (heap_alloc_new w1 _) (hvA_size zeroH) (hvA_size zeroH) (hvA_one _) rfl rfl ?_; intro w5 h5 k5 s5; have K5 := Lib.hid (((Kp.refl [] w1).alloc (.cells (hvA zeroH) 33)).trans k5 (fun x hx hlt => by simp at hx; omega)); clear h5 k5 s5)
  go_ret
  exact ⟨rfl, K1.out.trans K5.out (by simp)⟩

set_option maxHeartbeats 1000000 in
theorem in_good (leaf root : Hsh) (i n : Nat) (ps : List Hsh) (a : Option Addr) (c : Nat) (w : World) (hr : Rd w a ps.length c 32 (hsc ps)) (hin : i < n) (hb : n ≤ 1152921504606846976) (hL : Laid w) (h2 : 4 ≤ w.heap.size) :
    Calls Tryd.prog 59 #[hv leaf, .int .i64 i, .int .i64 n, .slice a ps.length c, hv root] w fun e w' => e = .returned (.int .i64 (inV root (leadF i (n - 1) leaf ps))) ∧ Kp [] w w' := by
  have HG5 := Lib.hid (alloc1 w (hvA leaf) (hvA root) 33 33)
  have HG9 := Lib.hid (alloc2 w (hvA leaf) (hvA root) 33 33)
  have K0 := Lib.hid (((Kp.refl [] w).alloc (.cells (hvA leaf) 33)).alloc (.cells (hvA root) 33))
  have HC := Lib.hid (fun W (k : Kp [] w W) => lead_good leaf i n ps a c W (hr.below k) hin hb (hL.below k) (Nat.le_trans h2 k.size))
  obtain ⟨o, ho⟩ : ∃ o, o = leadF i (n - 1) leaf ps := ⟨_, rfl⟩
  rw [← ho] at HC ⊢
  clear ho hr hL hb hin
  cases o with
  | none =>
    go_enter Tryd.func59, Tryd.ntmps59
    go_wp2_with (refine wpList_get Tryd.thash rfl rfl HG5.out (hvA_size _) rfl ?_)
    refine (HC.out _ K0.out).mono ?_
    rintro e w1 ⟨rfl, k1⟩
    have K1 := Lib.hid (K0.out.trans k1 (by simp))
    clear k1
    simp only [leadV]
    go_wp2_with (refine wpList_set Tryd.thash rfl rfl (heap_alloc_new w1 _) (hvA_size zeroH) (hvA_size zeroH) (hvA_one _) rfl rfl ?_; intro w5 h5 k5 s5; have K5 := Lib.hid (((Kp.refl [] w1).alloc (.cells (hvA zeroH) 33)).trans k5 (fun x hx hlt => by simp at hx; omega)); clear h5 k5 s5)
    go_ret
    exact ⟨rfl, K1.out.trans K5.out (by simp)⟩
  | some r =>
    have hne : ∀ w, (Op.equalIn 10000 33 (.agg (hvA r)) (.agg (hvA root))).run Tryd.prog w = .ok (decide (r = root)) w := fun w => Tryd.equalHash w r root
    have hgt : Tryd.prog.eqGuardType Tryd.prog.depth 33 = false := Tryd.eqGuardType33
    by_cases hrr : r = root
    · have hd : decide (r = root) = true := decide_eq_true hrr
      have HI := Lib.hid (show inV root (some r) = 0 by simp [inV, hrr])
      rw [HI.out]
      clear hrr
      go_enter Tryd.func59, Tryd.ntmps59
      go_wp2_with (refine wpList_get Tryd.thash rfl rfl HG5.out (hvA_size _) rfl ?_)
      refine (HC.out _ K0.out).mono ?_
      rintro e w1 ⟨rfl, k1⟩
      have K1 := Lib.hid (K0.out.trans k1 (by simp))
      have HR1 := Lib.hid ((k1.block _ (lt_of_block HG9.out) (by simp)).trans HG9.out)
      clear k1
      simp only [leadV]
      go_wp2_with (first | (refine wpList_set Tryd.thash rfl rfl (heap_alloc_new w1 _) (hvA_size zeroH) (hvA_size r) (hvA_one _) rfl rfl ?_; intro w5 h5 k5 s5; have K5 := Lib.hid (((Kp.refl [] w1).alloc (.cells (hvA zeroH) 33)).trans k5 (fun x hx hlt => by simp at hx; omega)); have H5 := Lib.hid h5; have HR5 := Lib.hid ((K5.out.block _ (lt_of_block HR1.out) (by simp)).trans HR1.out); clear h5 k5 s5) | (refine wpList_get Tryd.thash rfl rfl H5.out (hvA_size _) rfl ?_) | (refine wpList_get Tryd.thash rfl rfl HR5.out (hvA_size _) rfl ?_))
      go_ret
      exact ⟨rfl, K1.out.trans K5.out (by simp)⟩
    · have hd : decide (r = root) = false := decide_eq_false hrr
      have HI := Lib.hid (show inV root (some r) = 22 by simp [inV, hrr])
      rw [HI.out]
      clear hrr
      go_enter Tryd.func59, Tryd.ntmps59
      go_wp2_with (refine wpList_get Tryd.thash rfl rfl HG5.out (hvA_size _) rfl ?_)
      refine (HC.out _ K0.out).mono ?_
      rintro e w1 ⟨rfl, k1⟩
      have K1 := Lib.hid (K0.out.trans k1 (by simp))
      have HR1 := Lib.hid ((k1.block _ (lt_of_block HG9.out) (by simp)).trans HG9.out)
      clear k1
      simp only [leadV]
      go_wp2_with (first | (refine wpList_set Tryd.thash rfl rfl (heap_alloc_new w1 _) (hvA_size zeroH) (hvA_size r) (hvA_one _) rfl rfl ?_; intro w5 h5 k5 s5; have K5 := Lib.hid (((Kp.refl [] w1).alloc (.cells (hvA zeroH) 33)).trans k5 (fun x hx hlt => by simp at hx; omega)); have H5 := Lib.hid h5; have HR5 := Lib.hid ((K5.out.block _ (lt_of_block HR1.out) (by simp)).trans HR1.out); clear h5 k5 s5) | (refine wpList_get Tryd.thash rfl rfl H5.out (hvA_size _) rfl ?_) | (refine wpList_get Tryd.thash rfl rfl HR5.out (hvA_size _) rfl ?_))
      go_ret
      exact ⟨rfl, K1.out.trans K5.out (by simp)⟩
end Go.Proofs.YtalnkhgonfcabaaDoor
