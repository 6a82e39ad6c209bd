/-
  PATHS without a list: on which side the next hash stands, from the leaf up; the document's Sides is the program's way.
-/
import Derived.Test.YtgfppmnpccaloaaDoorRefg
namespace Go.Proofs.YtgfppmnpccaloaaDoor
open Go.RowKit

/-! ### The program's way up -/
/-- Past the levels where a place is a left one's. -/
def oddF : Nat → Nat → Nat
  | 0, a => a
  | f + 1, a => if a % 2 = 0 ∧ 0 < a then oddF f (a / 2) else a
def odd (a : Nat) : Nat := oddF a a
theorem oddF_more : ∀ (f g a : Nat), a ≤ f → a ≤ g → oddF f a = oddF g a
  | 0, 0, _, _, _ => rfl
  | 0, g + 1, a, h, _ => by rw [oddF, oddF, if_neg (by omega)]
  | f + 1, 0, a, _, h => by rw [oddF, oddF, if_neg (by omega)]
  | f + 1, g + 1, a, h1, h2 => by
    rw [oddF, oddF]
    split
    · exact oddF_more f g (a / 2) (by omega) (by omega)
    · rfl
theorem odd_even (a : Nat) (h : a % 2 = 0) (h0 : 0 < a) : odd a = odd (a / 2) := by
  unfold odd
  obtain ⟨f, rfl⟩ : ∃ f, a = f + 1 := ⟨a - 1, by omega⟩
  rw [oddF, if_pos ⟨h, h0⟩]
  exact oddF_more _ _ _ (by omega) (Nat.le_refl _)
theorem odd_odd (a : Nat) (h : a % 2 = 1) : odd a = a := by
  unfold odd
  obtain ⟨f, rfl⟩ : ∃ f, a = f + 1 := ⟨a - 1, by omega⟩
  rw [oddF, if_neg (by omega)]
theorem odd_zero : odd 0 = 0 := rfl
theorem odd_le (a : Nat) : odd a ≤ a := by
  have h : ∀ f a, oddF f a ≤ a := by
    intro f
    induction f with
    | zero => intro a; exact Nat.le_refl _
    | succ f ih =>
      intro a
      rw [oddF]
      split
      · have := ih (a / 2); omega
      · exact Nat.le_refl _
  exact h a a
theorem odd_is (a : Nat) (h : 0 < a) : odd a % 2 = 1 := by
  induction a using Nat.strongRecOn with
  | _ a ih =>
    by_cases he : a % 2 = 0
    · rw [odd_even a he h]; exact ih (a / 2) (by omega) (by omega)
    · rw [odd_odd a (by omega)]; omega

/-- On which side: the program's, from place at, of last. -/
def sl : Nat → Nat → Nat → List Bool
  | 0, _, _ => []
  | f + 1, a, z => if z = 0 then [] else if a % 2 = 1 then true :: sl f (a / 2) (z / 2) else if a = z then true :: sl f (odd a / 2) (odd a / 2) else false :: sl f (a / 2) (z / 2)
theorem sl_more : ∀ (f g a z : Nat), z ≤ f → z ≤ g → sl f a z = sl g a z
  | 0, 0, _, _, _, _ => rfl
  | 0, g + 1, a, z, h, _ => by rw [sl, sl, if_pos (by omega)]
  | f + 1, 0, a, z, _, h => by rw [sl, sl, if_pos (by omega)]
  | f + 1, g + 1, a, z, h1, h2 => by
    rw [sl, sl]
    split
    · rfl
    · split
      · rw [sl_more f g _ _ (by omega) (by omega)]
      · split
        · have := odd_le a
          rw [sl_more f g _ _ (by omega) (by omega)]
        · rw [sl_more f g _ _ (by omega) (by omega)]
def sideL (a z : Nat) : List Bool := sl z a z
theorem sideL_zero (a : Nat) : sideL a 0 = [] := rfl
theorem sideL_odd (a z : Nat) (h : 0 < z) (ha : a % 2 = 1) : sideL a z = true :: sideL (a / 2) (z / 2) := by
  unfold sideL
  obtain ⟨f, rfl⟩ : ∃ f, z = f + 1 := ⟨z - 1, by omega⟩
  rw [sl, if_neg (by omega), if_pos ha, sl_more f ((f + 1) / 2) _ _ (by omega) (Nat.le_refl _)]
theorem sideL_last (a : Nat) (h : 0 < a) (ha : a % 2 = 0) : sideL a a = true :: sideL (odd a / 2) (odd a / 2) := by
  unfold sideL
  have := odd_le a
  obtain ⟨f, hf⟩ : ∃ f, a = f + 1 := ⟨a - 1, by omega⟩
  rw [show sl a a a = sl (f + 1) a a by rw [← hf], sl, if_neg (by omega), if_neg (by omega), if_pos rfl, sl_more f (odd a / 2) _ _ (by omega) (Nat.le_refl _)]
theorem sideL_even (a z : Nat) (h : 0 < z) (ha : a % 2 = 0) (hz : a ≠ z) : sideL a z = false :: sideL (a / 2) (z / 2) := by
  unfold sideL
  obtain ⟨f, rfl⟩ : ∃ f, z = f + 1 := ⟨z - 1, by omega⟩
  rw [sl, if_neg (by omega), if_neg (by omega), if_neg hz, sl_more f ((f + 1) / 2) _ _ (by omega) (Nat.le_refl _)]

/-- A leaf of the whole half. -/
theorem sideL_left : ∀ (j i z : Nat), i < 2 ^ j → 2 ^ j ≤ z → z < 2 ^ (j + 1) → sideL i z = sideL i (2 ^ j - 1) ++ [false]
  | 0, i, z, h1, h2, h3 => by
    obtain rfl : i = 0 := by omega
    obtain rfl : z = 1 := by omega
    decide
  | j + 1, i, z, h1, h2, h3 => by
    have e1 : 2 ^ (j + 1) = 2 * 2 ^ j := by rw [Nat.pow_succ]; omega
    have e2 : 2 ^ (j + 1 + 1) = 4 * 2 ^ j := by rw [Nat.pow_succ, Nat.pow_succ]; omega
    have hp : 0 < 2 ^ j := Nat.pow_pos (by decide)
    have ih := sideL_left j (i / 2) (z / 2) (by omega) (by omega) (by omega)
    have e3 : (2 ^ (j + 1) - 1) / 2 = 2 ^ j - 1 := by omega
    by_cases hi : i % 2 = 1
    · rw [sideL_odd i z (by omega) hi, sideL_odd i (2 ^ (j + 1) - 1) (by omega) hi, e3, ih]; rfl
    · rw [sideL_even i z (by omega) (by omega) (by omega), sideL_even i (2 ^ (j + 1) - 1) (by omega) (by omega) (by omega), e3, ih]; rfl
theorem odd_pow : ∀ j, odd (2 ^ j) = 1
  | 0 => rfl
  | j + 1 => by
    have hp : 0 < 2 ^ j := Nat.pow_pos (by decide)
    rw [odd_even _ (by rw [Nat.pow_succ]; omega) (by rw [Nat.pow_succ]; omega), show 2 ^ (j + 1) / 2 = 2 ^ j by rw [Nat.pow_succ]; omega, odd_pow j]
theorem odd_add (j i : Nat) (h0 : 0 < i) (h : i < 2 ^ j) : ∃ k, odd (2 ^ j + i) = 2 ^ k + odd i ∧ odd i < 2 ^ k := by
  induction i using Nat.strongRecOn generalizing j with
  | _ i ih =>
    obtain ⟨j, rfl⟩ : ∃ j', j = j' + 1 := ⟨j - 1, by
      rcases j with _ | j
      · simp at h; omega
      · omega⟩
    have e1 : 2 ^ (j + 1) = 2 * 2 ^ j := by rw [Nat.pow_succ]; omega
    by_cases he : i % 2 = 0
    · obtain ⟨k, h1, h2⟩ := ih (i / 2) (by omega) j (by omega) (by omega)
      refine ⟨k, ?_, ?_⟩
      · rw [odd_even (2 ^ (j + 1) + i) (by omega) (by omega), show (2 ^ (j + 1) + i) / 2 = 2 ^ j + i / 2 by omega, h1, odd_even i he h0]
      · rw [odd_even i he h0]; exact h2
    · exact ⟨j + 1, by rw [odd_odd _ (by omega), odd_odd i (by omega)], by rw [odd_odd i (by omega)]; exact h⟩
/-- A leaf of the rest. -/
theorem sideL_right (z i j : Nat) (h1 : i ≤ z) (h2 : z < 2 ^ j) : sideL (2 ^ j + i) (2 ^ j + z) = sideL i z ++ [true] := by
  induction z using Nat.strongRecOn generalizing i j with
  | _ z ih =>
    have hp : 0 < 2 ^ j := Nat.pow_pos (by decide)
    by_cases hz : z = 0
    · subst hz
      obtain rfl : i = 0 := by omega
      simp only [Nat.add_zero]
      rw [sideL_zero]
      rcases j with _ | j
      · decide
      · have e1 : 2 ^ (j + 1) = 2 * 2 ^ j := by rw [Nat.pow_succ]; omega
        rw [sideL_last _ (by omega) (by omega), odd_pow]; rfl
    · obtain ⟨j, rfl⟩ : ∃ j', j = j' + 1 := ⟨j - 1, by
        rcases j with _ | j
        · simp at h2; omega
        · omega⟩
      have e1 : 2 ^ (j + 1) = 2 * 2 ^ j := by rw [Nat.pow_succ]; omega
      by_cases hi : i % 2 = 1
      · rw [sideL_odd _ _ (by omega) (by omega), sideL_odd i z (by omega) hi, show (2 ^ (j + 1) + i) / 2 = 2 ^ j + i / 2 by omega, show (2 ^ (j + 1) + z) / 2 = 2 ^ j + z / 2 by omega, ih (z / 2) (by omega) (i / 2) j (by omega) (by omega)]; rfl
      · by_cases hl : i = z
        · subst hl
          obtain ⟨k, h3, h4⟩ := odd_add (j + 1) i (by omega) h2
          have h5 := odd_is i (by omega)
          have h6 := odd_le i
          rw [sideL_last _ (by omega) (by omega), sideL_last i (by omega) (by omega), h3]
          obtain ⟨k, rfl⟩ : ∃ k', k = k' + 1 := ⟨k - 1, by
            rcases k with _ | k
            · simp at h4; omega
            · omega⟩
          have e2 : 2 ^ (k + 1) = 2 * 2 ^ k := by rw [Nat.pow_succ]; omega
          rw [show (2 ^ (k + 1) + odd i) / 2 = 2 ^ k + odd i / 2 by omega, ih (odd i / 2) (by omega) (odd i / 2) k (Nat.le_refl _) (by omega)]; rfl
        · rw [sideL_even _ _ (by omega) (by omega) (by omega), sideL_even i z (by omega) (by omega) hl, show (2 ^ (j + 1) + i) / 2 = 2 ^ j + i / 2 by omega, show (2 ^ (j + 1) + z) / 2 = 2 ^ j + z / 2 by omega, ih (z / 2) (by omega) (i / 2) j (by omega) (by omega)]; rfl

/-! ### The document's -/
def sideF : Nat → Nat → Nat → List Bool
  | 0, _, _ => []
  | f + 1, i, n => if n ≤ 1 then [] else if i < sp n then sideF f i (sp n) ++ [false] else sideF f (i - sp n) (n - sp n) ++ [true]
/-- The two say the same. -/
theorem sideF_is : ∀ (f i n : Nat), n ≤ f → i < n → n ≤ 9223372036854775808 → sideF f i n = sideL i (n - 1)
  | 0, _, _, h, h1, _ => by omega
  | f + 1, i, n, hf, hi, hb => by
    rw [sideF]
    by_cases hn : n ≤ 1
    · rw [if_pos hn, show n - 1 = 0 by omega, sideL_zero]
    · obtain ⟨_, _, s1, s2, s3⟩ := sp_spec n (by omega) (by omega)
      rw [if_neg hn]
      have ep : ∃ j, sp n = 2 ^ j := ⟨_, rfl⟩
      obtain ⟨j, hj⟩ := ep
      have e1 : 2 ^ (j + 1) = 2 * 2 ^ j := by rw [Nat.pow_succ]; omega
      rw [hj] at s1 s2 s3
      rw [hj]
      split
      · rename_i hlt
        rw [sideF_is f i (2 ^ j) (by omega) hlt (by omega), sideL_left j i (n - 1) hlt (by omega) (by omega)]
      · rename_i hge
        rw [sideF_is f (i - 2 ^ j) (n - 2 ^ j) (by omega) (by omega) (by omega)]
        have h := sideL_right (n - 2 ^ j - 1) (i - 2 ^ j) j (by omega) (by omega)
        rw [show 2 ^ j + (i - 2 ^ j) = i by omega, show 2 ^ j + (n - 2 ^ j - 1) = n - 1 by omega] at h
        rw [h]

/-! ### What a path leads to -/
def joinH (h p : Hsh) (b : Bool) : Hsh := if b then nodeH p h else nodeH h p
def foldS : Hsh → List Hsh → List Bool → Hsh
  | h, p :: ps, b :: bs => foldS (joinH h p b) ps bs
  | h, _, _ => h
/-- As the program goes. -/
def leadF : Nat → Nat → Hsh → List Hsh → Option Hsh
  | _, z, h, [] => if z = 0 then some h else none
  | a, z, h, p :: ps => if z = 0 then none else if a % 2 = 1 then leadF (a / 2) (z / 2) (nodeH p h) ps else if a = z then leadF (odd a / 2) (odd a / 2) (nodeH p h) ps else leadF (a / 2) (z / 2) (nodeH h p) ps
theorem leadF_is : ∀ (ps : List Hsh) (a z : Nat) (h : Hsh), a ≤ z → leadF a z h ps = if ps.length = (sideL a z).length then some (foldS h ps (sideL a z)) else none
  | [], a, z, h, hz => by
    rw [leadF]
    by_cases h0 : z = 0
    · subst h0; rw [sideL_zero]; rfl
    · rw [if_neg h0, if_neg]
      intro hh
      have hnil : sideL a z = [] := List.eq_nil_of_length_eq_zero hh.symm
      by_cases ha : a % 2 = 1
      · rw [sideL_odd a z (by omega) ha] at hnil; cases hnil
      · by_cases hl : a = z
        · subst hl; rw [sideL_last a (by omega) (by omega)] at hnil; cases hnil
        · rw [sideL_even a z (by omega) (by omega) hl] at hnil; cases hnil
  | p :: ps, a, z, h, hz => by
    rw [leadF]
    by_cases h0 : z = 0
    · subst h0; rw [if_pos rfl, sideL_zero, if_neg (by simp)]
    · rw [if_neg h0]
      by_cases ha : a % 2 = 1
      · rw [if_pos ha, leadF_is ps _ _ _ (by omega), sideL_odd a z (by omega) ha]
        simp only [List.length_cons, Nat.add_right_cancel_iff]; rfl
      · rw [if_neg ha]
        by_cases hl : a = z
        · subst hl
          rw [if_pos rfl, leadF_is ps _ _ _ (Nat.le_refl _), sideL_last a (by omega) (by omega)]
          simp only [List.length_cons, Nat.add_right_cancel_iff]; rfl
        · rw [if_neg hl, leadF_is ps _ _ _ (by omega), sideL_even a z (by omega) (by omega) hl]
          simp only [List.length_cons, Nat.add_right_cancel_iff]; rfl
end Go.Proofs.YtgfppmnpccaloaaDoor
