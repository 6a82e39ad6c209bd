/-
  proof.Length: how long a path is; the document's way up has as many steps.
-/
import Derived.Test.YtalnkhgonfcabaaDoorPrf1
import Derived.Test.YtalnkhgonfcabaaDoorPop
namespace Go.Proofs.YtalnkhgonfcabaaDoor
open Go.RowKit

theorem bitLen_zero : Lib.bitLen 0 = 0 := rfl
theorem bitLen_step (x : Nat) (h0 : x ≠ 0) (h : x < 18446744073709551616) : Lib.bitLen x = 1 + Lib.bitLen (x / 2) := Lib.bitLen_half x h0 h
def lenN (i z : Nat) : Nat := Lib.bitLen (i ^^^ z) + pop (i / 2 ^ Lib.bitLen (i ^^^ z))
theorem xor_half (i z : Nat) : (i ^^^ z) / 2 = (i / 2) ^^^ (z / 2) := by
  apply Nat.eq_of_testBit_eq
  intro j
  rw [Nat.testBit_div_two, Nat.testBit_xor, Nat.testBit_xor, Nat.testBit_div_two, Nat.testBit_div_two]
theorem xor_ne (i z : Nat) (h : i ≠ z) : i ^^^ z ≠ 0 := fun hh => h (by
  apply Nat.eq_of_testBit_eq
  intro j
  have := congrArg (fun n => n.testBit j) hh
  simp only [Nat.testBit_xor, Nat.zero_testBit] at this
  cases h1 : i.testBit j <;> cases h2 : z.testBit j <;> simp [h1, h2] at this ⊢)
theorem lenN_self (i : Nat) : lenN i i = pop i := by
  unfold lenN
  rw [Nat.xor_self, bitLen_zero]
  simp
theorem lenN_ne (i z : Nat) (h : i ≠ z) (hi : i < 18446744073709551616) (hz : z < 18446744073709551616) : lenN i z = 1 + lenN (i / 2) (z / 2) := by
  have hx : i ^^^ z < 18446744073709551616 := Nat.xor_lt_two_pow (n := 64) hi hz
  unfold lenN
  rw [bitLen_step _ (xor_ne i z h) hx, xor_half, Nat.add_assoc, show ∀ k, i / 2 ^ (1 + k) = i / 2 / 2 ^ k from fun k => by rw [Nat.div_div_eq_div_mul, Nat.pow_add, Nat.pow_one]]
theorem pop_odd : ∀ (n a : Nat), a ≤ n → 0 < a → pop a = 1 + pop (odd a / 2)
  | 0, a, h, h0 => by omega
  | n + 1, a, h, h0 => by
    rw [pop_step]
    by_cases he : a % 2 = 0
    · rw [odd_even a he h0, pop_odd n (a / 2) (by omega) (by omega)]; omega
    · rw [odd_odd a (by omega)]; omega
theorem sideL_length : ∀ (n i z : Nat), z ≤ n → i ≤ z → z < 18446744073709551616 → (sideL i z).length = lenN i z
  | 0, i, z, h, hi, _ => by
    obtain rfl : z = 0 := by omega
    obtain rfl : i = 0 := by omega
    rfl
  | n + 1, i, z, h, hi, hz => by
    by_cases h0 : z = 0
    · subst h0
      obtain rfl : i = 0 := by omega
      rfl
    · by_cases he : i = z
      · subst he
        rw [lenN_self]
        by_cases ho : i % 2 = 1
        · rw [sideL_odd i i (by omega) ho, List.length_cons, sideL_length n (i / 2) (i / 2) (by omega) (Nat.le_refl _) (by omega), lenN_self, pop_step i]; omega
        · have := odd_le i
          rw [sideL_last i (by omega) (by omega), List.length_cons, sideL_length n _ _ (by omega) (Nat.le_refl _) (by omega), lenN_self, pop_odd i i (Nat.le_refl _) (by omega)]; omega
      · rw [lenN_ne i z he (by omega) hz]
        by_cases ho : i % 2 = 1
        · rw [sideL_odd i z (by omega) ho, List.length_cons, sideL_length n (i / 2) (z / 2) (by omega) (by omega) (by omega)]; omega
        · rw [sideL_even i z (by omega) (by omega) he, List.length_cons, sideL_length n (i / 2) (z / 2) (by omega) (by omega) (by omega)]; omega

theorem pop_le : ∀ (k x : Nat), x < 2 ^ k → pop x ≤ k
  | 0, x, h => by
    obtain rfl : x = 0 := by simp at h; omega
    exact Nat.le_refl _
  | k + 1, x, h => by
    rw [Nat.pow_succ] at h
    have := pop_le k (x / 2) (by omega)
    rw [pop_step]; omega
theorem lenN_le (i z : Nat) (hi : i < 1152921504606846976) (hz : z < 1152921504606846976) : lenN i z ≤ 120 := by
  have h1 := Lib.bitLen_le (i ^^^ z) 60 (by decide) (Nat.xor_lt_two_pow hi hz)
  have h2 := pop_le 60 (i / 2 ^ Lib.bitLen (i ^^^ z)) (Nat.lt_of_le_of_lt (Nat.div_le_self _ _) hi)
  unfold lenN; omega
theorem sideL_le (i z : Nat) (h : i ≤ z) (hz : z < 1152921504606846976) : (sideL i z).length ≤ 120 := by
  rw [sideL_length z i z (Nat.le_refl _) h (by omega)]
  exact lenN_le i z (by omega) hz

end Go.Proofs.YtalnkhgonfcabaaDoor
