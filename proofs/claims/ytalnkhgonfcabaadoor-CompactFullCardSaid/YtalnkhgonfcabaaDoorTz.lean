/-
  math/bits.TrailingZeros of a number's complement: how many ones stand at the number's end.
-/
import Derived.Test.YtalnkhgonfcabaaDoorPop
import Derived.Lib.TrailingZeros
namespace Go.Proofs.YtalnkhgonfcabaaDoor
open Go.RowKit

/-- How many ones at the end. -/
def tons : Nat → Nat → Nat
  | 0, _ => 0
  | f + 1, n => if n % 2 = 1 then 1 + tons f (n / 2) else 0
theorem ctz_tons : ∀ (f n : Nat), n < 2 ^ f → Lib.ctzFrom f (2 ^ f - 1 - n) = tons f n
  | 0, _, _ => rfl
  | f + 1, n, h => by
    have e := Nat.pow_succ' (m := f) (n := 2)
    have h1 : 1 ≤ 2 ^ f := Nat.one_le_two_pow
    rw [Lib.ctzFrom, tons]
    by_cases ho : n % 2 = 1
    · rw [if_pos ho, if_neg (by omega), ← ctz_tons f (n / 2) (by omega), show (2 ^ (f + 1) - 1 - n) / 2 = 2 ^ f - 1 - n / 2 by omega]
    · rw [if_neg ho, if_pos (by omega)]
/-- The library's table, as it is laid. -/
def Tab (w : World) : Prop := ∀ j, j < 64 → w.cell? ⟨2, j, none⟩ = some (.int .u8 (Lib.deBruijn64tab.getD j 0))
theorem Tab.below {w w' : World} (h : Tab w) (k : Kp [] w w') : Tab w' := fun j hj => (k.cell (World.block_lt_of_cell? _ _ (h j hj)) (by simp)).trans (h j hj)
theorem Tab.kept {w w' : World} {F : List Nat} (h : Tab w) (k : Kp F w w') (hF : ∀ x ∈ F, 3 + 1 ≤ x) : Tab w' := fun j hj => (k.cell (World.block_lt_of_cell? _ _ (h j hj)) (fun hh => by have := hF _ hh; simp at this)).trans (h j hj)
theorem tz_key (x a : Nat) (hx : x < 18446744073709551616) (hx0 : x ≠ 0) (hlow : x &&& (18446744073709551616 - x) = a) :
    IntKind.u64.wrap (bits BinOp.and IntKind.u64 (x : Int) (IntKind.u64.wrap (-(x : Int))) * 285870213051353865) / 288230376151711744 = ((a * 285870213051353865 % 18446744073709551616 / 288230376151711744 : Nat) : Int) := by
  have e1 : IntKind.u64.wrap (-(x : Int)) = ((18446744073709551616 - x : Nat) : Int) := by rw [IntKind.wrap_u64]; omega
  rw [e1, u64_and_nat x _ hx (by omega), hlow, IntKind.wrap_u64]
  omega
set_option maxHeartbeats 1000000 in
theorem tz64_core (x k idx : Nat) (w : World) (hx0 : ((x : Int) == 0) = false)
    (key : IntKind.u64.wrap (bits BinOp.and IntKind.u64 (x : Int) (IntKind.u64.wrap (-(x : Int))) * 285870213051353865) / 288230376151711744 = (idx : Int))
    (hi : idx < 64) (hk : k < 64) (hcell : w.cell? ⟨2, idx, none⟩ = some (.int .u8 k)) :
    Calls Tryd.prog 141 #[.int .u64 x] w fun e w' => e = .returned (.int .i64 k) ∧ w = w' := by
  go_enter Tryd.func141, Tryd.ntmps141
  go_wp2_with (simp only [key])
  go_ret
  exact ⟨rfl, rfl⟩
theorem tz64_any (x : Nat) (hx : x < 18446744073709551616) (hx0 : x ≠ 0) (w : World) (hT : Tab w) :
    Calls Tryd.prog 141 #[.int .u64 x] w fun e w' => e = .returned (.int .i64 (Lib.ctz 64 x : Nat)) ∧ w = w' := by
  obtain ⟨hlow, hk⟩ := Lib.lowest_bit 64 x hx0 hx
  obtain ⟨hi, htab⟩ := Lib.deBruijn64_at _ hk
  have hcell := hT _ hi
  rw [htab] at hcell
  exact tz64_core x _ _ w (by simp; omega) (tz_key x _ hx hx0 hlow) hi hk hcell
theorem tz_any (x : Nat) (hx : x < 18446744073709551616) (hx0 : x ≠ 0) (w : World) (hT : Tab w) :
    Calls Tryd.prog 111 #[.int .u64 x] w fun e w' => e = .returned (.int .i64 (Lib.ctz 64 x : Nat)) ∧ w = w' := by
  have HC := Lib.hid (tz64_any x hx hx0 w hT)
  clear hT hx hx0
  go_enter Tryd.func111, Tryd.ntmps111
  go_wp2_with fail
  refine HC.out.mono ?_
  rintro e w' ⟨rfl, rfl⟩
  go_wp2
  go_ret
  exact ⟨rfl, rfl⟩
/-- Of a number's complement. -/
theorem tzc_any (n : Nat) (hn : n ≤ 9223372036854775807) (w : World) (hT : Tab w) :
    Calls Tryd.prog 111 #[.int .u64 ((18446744073709551615 - n : Nat) : Int)] w fun e w' => e = .returned (.int .i64 (tons 64 n : Nat)) ∧ w = w' := by
  have h := tz_any (18446744073709551615 - n) (by omega) (by omega) w hT
  have e : Lib.ctz 64 (18446744073709551615 - n) = tons 64 n := by
    unfold Lib.ctz
    rw [if_neg (by omega)]
    exact ctz_tons 64 n (by omega)
  rw [e] at h
  exact h
end Go.Proofs.YtalnkhgonfcabaaDoor
