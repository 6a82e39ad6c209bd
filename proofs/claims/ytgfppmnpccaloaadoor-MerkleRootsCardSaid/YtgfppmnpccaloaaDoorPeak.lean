/-
  The roots of the whole trees that a list is made of.
-/
import Derived.Test.YtgfppmnpccaloaaDoorMerk3
namespace Go.Proofs.YtgfppmnpccaloaaDoor

/-- The greatest power of two that is no greater. -/
def hp (n : Nat) : Nat := sp (n + 1)
theorem hp_spec (n : Nat) (h : 1 ≤ n) (hb : n < 9223372036854775808) : 1 ≤ hp n ∧ hp n ≤ n ∧ n < 2 * hp n := by
  obtain ⟨_, _, h1, h2, h3⟩ := sp_spec (n + 1) (by omega) (by omega)
  exact ⟨h1, by unfold hp; omega, by unfold hp; omega⟩
theorem hp_pow (n : Nat) : ∃ b, hp n = 2 ^ b := ⟨_, rfl⟩
theorem pow_uniq {a b n : Nat} (h1 : 2 ^ a ≤ n) (h2 : n < 2 * 2 ^ a) (h3 : 2 ^ b ≤ n) (h4 : n < 2 * 2 ^ b) : a = b := by
  have e1 := Nat.pow_succ' (m := a) (n := 2)
  have e2 := Nat.pow_succ' (m := b) (n := 2)
  have h5 := (Nat.pow_lt_pow_iff_right (a := 2) (by decide)).1 (show 2 ^ a < 2 ^ (b + 1) by omega)
  have h6 := (Nat.pow_lt_pow_iff_right (a := 2) (by decide)).1 (show 2 ^ b < 2 ^ (a + 1) by omega)
  omega
theorem hp_is {n a : Nat} (h1 : 2 ^ a ≤ n) (h2 : n < 2 * 2 ^ a) (hb : n < 9223372036854775808) : hp n = 2 ^ a := by
  have hp1 : 1 ≤ 2 ^ a := Nat.one_le_two_pow
  obtain ⟨_, h3, h4⟩ := hp_spec n (by omega) hb
  obtain ⟨b, hb'⟩ := hp_pow n
  rw [hb'] at h3 h4 ⊢
  rw [pow_uniq h1 h2 h3 h4]
def peaksF : Nat → List Hsh → List Hsh
  | 0, _ => []
  | f + 1, l => if l.length = 0 then [] else rootH (l.take (hp l.length)) :: peaksF f (l.drop (hp l.length))
theorem peaksF_enough : ∀ (f f' : Nat) (l : List Hsh), l.length ≤ f → l.length ≤ f' → l.length < 9223372036854775808 → peaksF f l = peaksF f' l
  | 0, 0, _, _, _, _ => rfl
  | 0, f' + 1, l, h, _, _ => by rw [peaksF, peaksF, if_pos (by omega)]
  | f + 1, 0, l, _, h, _ => by rw [peaksF, peaksF, if_pos (by omega)]
  | f + 1, f' + 1, l, h, h', hb => by
    rw [peaksF, peaksF]
    by_cases h0 : l.length = 0
    · rw [if_pos h0, if_pos h0]
    · obtain ⟨h1, _, _⟩ := hp_spec l.length (by omega) hb
      rw [if_neg h0, if_neg h0, peaksF_enough f f' _ (by rw [List.length_drop]; omega) (by rw [List.length_drop]; omega) (by rw [List.length_drop]; omega)]
def peaksOf (l : List Hsh) : List Hsh := peaksF l.length l
theorem peaksOf_nil : peaksOf [] = [] := rfl
theorem peaksOf_eq {l : List Hsh} (h : l ≠ []) (hb : l.length < 9223372036854775808) : peaksOf l = rootH (l.take (hp l.length)) :: peaksOf (l.drop (hp l.length)) := by
  have hl : 0 < l.length := List.length_pos_iff.2 h
  obtain ⟨h1, _, _⟩ := hp_spec l.length (by omega) hb
  unfold peaksOf
  obtain ⟨f, hf⟩ : ∃ f, l.length = f + 1 := ⟨l.length - 1, by omega⟩
  rw [peaksF_enough l.length (f + 1) l (by omega) (by omega) hb, peaksF, if_neg (by omega), peaksF_enough f (l.drop (hp l.length)).length _ (by rw [List.length_drop]; omega) (Nat.le_refl _) (by rw [List.length_drop]; omega)]
theorem peaksOf_one {l : List Hsh} {j : Nat} (h : l.length = 2 ^ j) (hb : l.length < 9223372036854775808) : peaksOf l = [rootH l] := by
  have h1 : 1 ≤ 2 ^ j := Nat.one_le_two_pow
  have hne : l ≠ [] := by rintro rfl; simp at h; omega
  have hh : hp l.length = l.length := by rw [hp_is (a := j) (by omega) (by omega) hb, h]
  rw [peaksOf_eq hne hb, hh, List.take_length, List.drop_length]; rfl
/-- Behind whole trees, a list that is less than each of them. -/
theorem peaksOf_app {b : List Hsh} {i : Nat} (hbl : b.length < 2 ^ i) : ∀ (f m : Nat) (l : List Hsh), l.length ≤ f → l.length = 2 ^ i * m → (l ++ b).length < 9223372036854775808 → peaksOf (l ++ b) = peaksOf l ++ peaksOf b
  | 0, m, l, hf, _, _ => by rw [List.eq_nil_of_length_eq_zero (show l.length = 0 by omega)]; rfl
  | f + 1, m, l, hf, hm, hb => by
    by_cases h0 : l = []
    · rw [h0]; rfl
    have hl : 0 < l.length := List.length_pos_iff.2 h0
    have hlb : (l ++ b).length = l.length + b.length := List.length_append
    have hb' : l.length < 9223372036854775808 := by omega
    obtain ⟨h1, h2, h3⟩ := hp_spec l.length hl hb'
    obtain ⟨a, ha⟩ := hp_pow l.length
    have hi1 : 1 ≤ 2 ^ i := Nat.one_le_two_pow
    have hm1 : 1 ≤ m := by
      rcases Nat.eq_zero_or_pos m with h | h
      · rw [h] at hm; simp at hm; exact absurd hm h0
      · exact h
    have hia : i ≤ a := by
      have e2 := Nat.pow_succ' (m := a) (n := 2)
      have hle : 2 ^ i ≤ l.length := by rw [hm]; exact Nat.le_mul_of_pos_right _ hm1
      have h6 := (Nat.pow_lt_pow_iff_right (a := 2) (by decide)).1 (show 2 ^ i < 2 ^ (a + 1) by omega)
      omega
    obtain ⟨q, rfl⟩ : ∃ q, a = i + q := ⟨a - i, by omega⟩
    have hpa : 2 ^ (i + q) = 2 ^ i * 2 ^ q := Nat.pow_add 2 i q
    have hmq : m < 2 * 2 ^ q := by
      have : 2 ^ i * m < 2 ^ i * (2 * 2 ^ q) := by rw [← hm]; rw [ha, hpa] at h3; rw [Nat.mul_left_comm]; exact h3
      exact Nat.lt_of_mul_lt_mul_left this
    have hqm : 2 ^ q ≤ m := by
      have : 2 ^ i * 2 ^ q ≤ 2 ^ i * m := by rw [← hm, ← hpa, ← ha]; exact h2
      exact Nat.le_of_mul_le_mul_left this (by omega)
    have hlt : (l ++ b).length < 2 * 2 ^ (i + q) := by
      have : 2 ^ i * (m + 1) ≤ 2 ^ i * (2 * 2 ^ q) := Nat.mul_le_mul_left _ hmq
      rw [Nat.mul_left_comm, ← hpa, Nat.mul_add, ← hm] at this
      omega
    have hh : hp (l ++ b).length = hp l.length := by rw [hp_is (a := i + q) (by rw [ha] at h2; omega) hlt hb, ha]
    have ht : (l ++ b).take (hp l.length) = l.take (hp l.length) := List.take_append_of_le_length h2
    have hd : (l ++ b).drop (hp l.length) = l.drop (hp l.length) ++ b := List.drop_append_of_le_length h2
    rw [peaksOf_eq (by simp [h0]) hb, hh, ht, hd, peaksOf_eq h0 hb', List.cons_append, peaksOf_app hbl f (m - 2 ^ q) (l.drop (hp l.length)) (by rw [List.length_drop]; omega) (by rw [List.length_drop, ha, hm, hpa, Nat.mul_sub]) (by rw [List.length_append, List.length_drop]; omega)]
/-- A tree more: as many of those behind are put together with it as the number has ones at its end. -/
def carry : Nat → Nat → List Hsh → Hsh → List Hsh
  | 0, _, ps, h => ps ++ [h]
  | f + 1, n, ps, h => if n % 2 = 1 then carry f (n / 2) ps.dropLast (nodeH (ps.getLast?.getD zeroH) h) else ps ++ [h]
theorem carry_is : ∀ (f m j : Nat) (l b : List Hsh), m ≤ f → l.length = 2 ^ j * m → b.length = 2 ^ j → (l ++ b).length < 9223372036854775808 → peaksOf (l ++ b) = carry f m (peaksOf l) (rootH b)
  | 0, m, j, l, b, hf, hl, hb, hbd => by
    obtain rfl : m = 0 := by omega
    have : l = [] := List.eq_nil_of_length_eq_zero (by rw [hl]; simp)
    subst this
    rw [List.nil_append, peaksOf_one hb (by rw [List.nil_append] at hbd; exact hbd), carry, peaksOf_nil]; rfl
  | f + 1, m, j, l, b, hf, hl, hb, hbd => by
    have hj : 1 ≤ 2 ^ j := Nat.one_le_two_pow
    have hj2 : 2 ^ (j + 1) = 2 * 2 ^ j := Nat.pow_succ'
    have hlb : (l ++ b).length = l.length + b.length := List.length_append
    rw [carry]
    by_cases ho : m % 2 = 1
    · rw [if_pos ho]
      obtain ⟨q, rfl⟩ : ∃ q, m = 2 * q + 1 := ⟨m / 2, by omega⟩
      have hl2 : l.length = 2 ^ (j + 1) * q + 2 ^ j := by rw [hl, hj2, Nat.mul_add, Nat.mul_one, Nat.mul_left_comm, Nat.mul_assoc]
      obtain ⟨l', b', rfl, hl', hb'⟩ : ∃ l' b', l = l' ++ b' ∧ l'.length = 2 ^ (j + 1) * q ∧ b'.length = 2 ^ j := by
        refine ⟨l.take (2 ^ (j + 1) * q), l.drop (2 ^ (j + 1) * q), (List.take_append_drop _ _).symm, by rw [List.length_take]; omega, ?_⟩
        rw [List.length_drop]; omega
      have hbl' : (l' ++ b').length < 9223372036854775808 := by omega
      have hla : (l' ++ b').length = l'.length + b'.length := List.length_append
      rw [peaksOf_app (i := j + 1) (b := b') (by omega) l'.length q l' (Nat.le_refl _) hl' hbl', peaksOf_one hb' (by omega)]
      rw [List.dropLast_concat, List.getLast?_concat, Option.getD_some, show (2 * q + 1) / 2 = q by omega]
      have hbb : (b' ++ b).length = 2 ^ (j + 1) := by rw [List.length_append]; omega
      have hrt : rootH (b' ++ b) = nodeH (rootH b') (rootH b) := by
        have h2 : 2 ≤ (b' ++ b).length := by omega
        have hs := rootH_split (b' ++ b) h2 (by omega)
        have hsp : sp (b' ++ b).length = 2 ^ j := by
          obtain ⟨_, _, s1, s2, s3⟩ := sp_spec (b' ++ b).length h2 (by omega)
          have e : sp (b' ++ b).length = 2 ^ (Lib.bitLen ((b' ++ b).length - 1) - 1) := rfl
          rw [e] at s1 s2 s3 ⊢
          have hu := pow_uniq (n := (b' ++ b).length - 1) (a := Lib.bitLen ((b' ++ b).length - 1) - 1) (b := j) (by omega) (by omega) (by omega) (by omega)
          rw [hu]
        rw [hsp, ← hb', List.take_left, List.drop_left] at hs
        exact hs
      rw [List.append_assoc, carry_is f q (j + 1) l' (b' ++ b) (by omega) hl' hbb (by rw [← List.append_assoc]; exact hbd), hrt]
    · rw [if_neg ho]
      obtain ⟨q, rfl⟩ : ∃ q, m = 2 * q := ⟨m / 2, by omega⟩
      rw [peaksOf_app (i := j + 1) (b := b) (by omega) l.length q l (Nat.le_refl _) (by rw [hl, hj2, Nat.mul_left_comm, Nat.mul_assoc]) hbd, peaksOf_one hb (by omega)]
/-- A leaf more. -/
theorem peaks_snoc (l : List Hsh) (h : Hsh) (hb : l.length < 9223372036854775807) : peaksOf (l ++ [h]) = carry l.length l.length (peaksOf l) h := by
  have := carry_is l.length l.length 0 l [h] (Nat.le_refl _) (by simp) rfl (by simp; omega)
  rw [rootH_one] at this
  exact this
/-- The root of the trees, from the last one on. -/
def peaksR : List Hsh → Hsh
  | [] => shaH []
  | [h] => h
  | h :: l => nodeH h (peaksR l)
theorem peaksR_cons (h : Hsh) {l : List Hsh} (hl : l ≠ []) : peaksR (h :: l) = nodeH h (peaksR l) := by
  cases l with
  | nil => exact absurd rfl hl
  | cons x l => rfl
theorem peaksOf_ne {l : List Hsh} (h : l ≠ []) (hb : l.length < 9223372036854775808) : peaksOf l ≠ [] := by rw [peaksOf_eq h hb]; exact List.cons_ne_nil _ _
theorem root_peaks : ∀ (f : Nat) (l : List Hsh), l.length ≤ f → l.length < 9223372036854775807 → rootH l = peaksR (peaksOf l)
  | 0, l, hf, _ => by rw [List.eq_nil_of_length_eq_zero (show l.length = 0 by omega)]; exact rootH_nil
  | f + 1, l, hf, hb => by
    by_cases h0 : l = []
    · rw [h0]; exact rootH_nil
    have hl : 0 < l.length := List.length_pos_iff.2 h0
    obtain ⟨h1, h2, h3⟩ := hp_spec l.length hl (by omega)
    rw [peaksOf_eq h0 (by omega)]
    by_cases he : hp l.length = l.length
    · rw [he, List.take_length, List.drop_length]; rfl
    · have hd : l.drop (hp l.length) ≠ [] := by
        intro h
        have := congrArg List.length h
        simp at this; omega
      have hsp : sp l.length = hp l.length := by
        obtain ⟨b, hb'⟩ := hp_pow l.length
        obtain ⟨_, _, s1, s2, s3⟩ := sp_spec l.length (by omega) (by omega)
        have e : sp l.length = 2 ^ (Lib.bitLen (l.length - 1) - 1) := rfl
        rw [hb'] at h1 h2 h3 he ⊢
        rw [e] at s1 s2 s3 ⊢
        have hu := pow_uniq (n := l.length - 1) (a := Lib.bitLen (l.length - 1) - 1) (b := b) (by omega) (by omega) (by omega) (by omega)
        rw [hu]
      rw [rootH_split l (by omega) (by omega), hsp, peaksR_cons _ (peaksOf_ne hd (by rw [List.length_drop]; omega)), root_peaks f (l.drop (hp l.length)) (by rw [List.length_drop]; omega) (by rw [List.length_drop]; omega)]
end Go.Proofs.YtgfppmnpccaloaaDoor
