/-
  merkle.Split: where a list is parted.
-/
import Derived.Test.YtgfppmnpccaloaaDoorTag
import Derived.Test.YtgfppmnpccaloaaDoorShelf
import Derived.Lib.ItoaNum
namespace Go.Proofs.YtgfppmnpccaloaaDoor
open Go.RowKit

/-- Where so many are parted. -/
def sp (n : Nat) : Nat := 2 ^ (Lib.bitLen (n - 1) - 1)
theorem sp_spec (n : Nat) (h : 2 ≤ n) (hb : n ≤ 9223372036854775808) : 1 ≤ Lib.bitLen (n - 1) ∧ Lib.bitLen (n - 1) ≤ 63 ∧ 1 ≤ sp n ∧ sp n < n ∧ n ≤ 2 * sp n := by
  have hl : n - 1 < 2 ^ 63 := by omega
  obtain ⟨h1, h2, h3⟩ := Lib.bitLenAux_bounds 64 (n - 1) (Nat.lt_of_lt_of_le hl (by decide)) (by omega)
  have h4 : Lib.bitLen (n - 1) ≤ 63 := Lib.bitLen_le (n - 1) 63 (by decide) hl
  have h5 : 2 ^ Lib.bitLen (n - 1) = 2 * sp n := by
    unfold sp
    have h10 : 1 ≤ Lib.bitLen (n - 1) := h1
    rw [← Nat.pow_succ', Nat.succ_eq_add_one, Nat.sub_add_cancel h10]
  have h6 : sp n ≤ n - 1 := h2
  have h7 : n - 1 < 2 ^ Lib.bitLen (n - 1) := h3
  have h8 : 1 ≤ sp n := Nat.one_le_two_pow
  rw [h5] at h7
  exact ⟨h1, h4, h8, by omega, by omega⟩

theorem split_lt (n : Int) (w : World) (h : n < 2) :
    Calls Tryd.prog 9 #[.int .i64 n] w fun e w' => e = .returned (.int .i64 0) ∧ w = w' := by
  go_enter Tryd.func9, Tryd.ntmps9
  go_wp2
  go_ret
  exact ⟨rfl, rfl⟩

theorem split_any (n : Nat) (w : World) (h : 2 ≤ n) (hb : n ≤ 9223372036854775807) :
    Calls Tryd.prog 9 #[.int .i64 n] w fun e w' => e = .returned (.int .i64 (sp n : Nat)) ∧ w = w' := by
  obtain ⟨h1, h2, h3, h4, h5⟩ := sp_spec n h (by omega)
  have hc := Tryd.bits_Len ((n : Int) - 1) w (by omega) (by omega)
  rw [show ((n : Int) - 1).toNat = n - 1 by omega] at hc
  have hsp : sp n = 2 ^ (Lib.bitLen (n - 1) - 1) := rfl
  obtain ⟨L, hL⟩ : ∃ L, L = Lib.bitLen (n - 1) := ⟨_, rfl⟩
  rw [← hL] at h1 h2 hc hsp
  have HC := Lib.hid hc
  have HS := Lib.hid hsp
  have hn1 : (0 : Int) ≤ (n : Int) - 1 := by omega
  have hlt : ¬ (n : Int) < 2 := by omega
  clear hc hsp h3 h4 h5 hL
  go_enter Tryd.func9, Tryd.ntmps9
  go_wp2_with fail
  refine HC.out.mono ?_
  rintro e w' ⟨rfl, rfl⟩
  go_wp2
  go_ret
  refine ⟨?_, rfl⟩
  have hp : 2 ^ (L - 1) ≤ 2 ^ 62 := Nat.pow_le_pow_right (by decide) (by omega)
  have hc2 : ((2 : Int) ^ (L - 1)) = ((2 ^ (L - 1) : Nat) : Int) := by simp
  have hw : wrap64 ((2 : Int) ^ (L - 1)) = (sp n : Nat) := by
    rw [hc2, HS.out]
    obtain ⟨q, hq⟩ : ∃ q : Nat, q = 2 ^ (L - 1) := ⟨_, rfl⟩
    rw [← hq] at hp ⊢
    exact IntWalk.wrap64_in _ ⟨by omega, by omega⟩
  exact congrArg (fun v => Ending.returned (.int .i64 v)) hw
end Go.Proofs.YtgfppmnpccaloaaDoor
