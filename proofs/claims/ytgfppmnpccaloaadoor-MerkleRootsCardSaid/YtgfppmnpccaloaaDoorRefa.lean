/-
  The reference's Split and Root.
-/
import Derived.Test.YtgfppmnpccaloaaDoorMerk2
namespace Go.Proofs.YtgfppmnpccaloaaDoor
open Go.RowKit

theorem sp_unique (n j : Nat) (h : 2 ≤ n) (hb : n ≤ 9223372036854775808) (h1 : 2 ^ j < n) (h2 : n ≤ 2 * 2 ^ j) : sp n = 2 ^ j := by
  obtain ⟨_, _, _, h4, h5⟩ := sp_spec n h hb
  unfold sp at h4 h5 ⊢
  have e1 : 2 ^ (Lib.bitLen (n - 1) - 1) < 2 ^ (j + 1) := by rw [Nat.pow_succ]; omega
  have e2 : 2 ^ j < 2 ^ (Lib.bitLen (n - 1) - 1 + 1) := by rw [Nat.pow_succ]; omega
  have l1 := (Nat.pow_lt_pow_iff_right (by decide : 1 < 2)).1 e1
  have l2 := (Nat.pow_lt_pow_iff_right (by decide : 1 < 2)).1 e2
  congr 1
  omega

theorem refSplit_any (n : Nat) (w : World) (h : 2 ≤ n) (hb : n ≤ 4611686018427387904) :
    Calls Tryd.prog 19 #[.int .i64 n] w fun e w' => e = .returned (.int .i64 (sp n : Nat)) ∧ w = w' := by
  go_enter Tryd.func19, Tryd.ntmps19
  go_wp2
  go_loopw [3] (fun v wr => ∃ j q : Nat, q = 2 ^ j ∧ q < n ∧ v = .int .i64 q ∧ wr = w) (fun v _ => n - (intOf v).toNat)
  case atStart => exact ⟨0, 1, rfl, by omega, rfl, rfl⟩
  case round =>
    obtain ⟨j, q, hq, hlt, rfl, rfl⟩ := hrel
    by_cases hc : 2 * q < n
    · have e1 : 2 * (q : Int) < n := by omega
      have e2 : IntKind.i64.wrap (2 * (q : Int)) = 2 * q := IntWalk.i64_in _ (by omega)
      have hq0 : 0 < q := by rw [hq]; exact Nat.two_pow_pos _
      have HQ := Lib.hid hq
      clear hq
      go_wp2
      go_roundw
      case rel => exact ⟨j + 1, 2 * q, by rw [HQ.out, Nat.pow_succ]; omega, hc, by go_num, by simp⟩
      case measure => simp [intOf]; omega
    · have e1 : ¬ 2 * (q : Int) < n := by omega
      have e2 : IntKind.i64.wrap (2 * (q : Int)) = 2 * q := IntWalk.i64_in _ (by omega)
      have hs : sp n = q := by rw [hq]; exact sp_unique n j h (by omega) (by omega) (by omega)
      clear hq
      go_wp2
      go_ret
      exact ⟨rfl, rfl⟩
end Go.Proofs.YtgfppmnpccaloaaDoor
