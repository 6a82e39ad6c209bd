/-
  The bytes of a range, read back.
-/
import Derived.Test.YtalnkhgonfcabaaDoorCmpZ
namespace Go.Proofs.YtalnkhgonfcabaaDoor
open Go.RowKit

theorem num_inj : ∀ (n : Nat) (a b : List UInt8), a.length = n → b.length = n → num a = num b → a = b
  | 0, a, b, ha, hb, _ => by rw [List.eq_nil_of_length_eq_zero ha, List.eq_nil_of_length_eq_zero hb]
  | n + 1, a, b, ha, hb, h => by
    obtain ⟨a', x, rfl⟩ : ∃ a' x, a = a' ++ [x] := ⟨a.dropLast, a.getLast (by rintro rfl; cases ha), (List.dropLast_concat_getLast _).symm⟩
    obtain ⟨b', y, rfl⟩ : ∃ b' y, b = b' ++ [y] := ⟨b.dropLast, b.getLast (by rintro rfl; cases hb), (List.dropLast_concat_getLast _).symm⟩
    rw [num_snoc, num_snoc] at h
    have hx := x.toNat_lt
    have hy := y.toNat_lt
    have h1 : num a' = num b' := by omega
    have h2 : x.toNat = y.toNat := by omega
    rw [num_inj n a' b' (by simpa using ha) (by simpa using hb) h1, UInt8.toNat_inj.1 h2]
theorem be8_num (l : List UInt8) (hl : l.length = 8) : be 8 (num l : Nat) = l := by
  refine num_inj 8 _ _ (be_length 8 _) hl ?_
  have h := num_be8 (num l : Nat)
  have h2 := num_lt l
  rw [hl] at h2
  omega
theorem num_be4' (n : Nat) (h : n < 4294967296) : num (be 4 n) = n := by
  have h1 := num_beTo 4 n 4 (by omega)
  have : (n : Int) / 2 ^ (8 * (4 - 4)) % 256 ^ 4 = n := by simp; omega
  unfold be
  omega
theorem be4_num (l : List UInt8) (hl : l.length = 4) : be 4 (num l : Nat) = l := by
  have h2 := num_lt l
  rw [hl] at h2
  exact num_inj 4 _ _ (be_length 4 _) hl (num_be4' _ (by omega))
theorem hb_inj : ∀ (a b : List Hsh), hb a = hb b → a.length = b.length → a = b
  | [], [], _, _ => rfl
  | [], _ :: _, _, h => by cases h
  | _ :: _, [], _, h => by cases h
  | x :: a, y :: b, h, hl => by
    unfold hb at h
    rw [List.flatMap_cons, List.flatMap_cons] at h
    obtain ⟨h1, h2⟩ := List.append_inj h (by rw [x.2, y.2])
    rw [Subtype.ext h1, hb_inj a b h2 (by simpa using hl)]
theorem rHs_some : ∀ (k : Nat) (r : List UInt8), 32 * k ≤ r.length → ∃ hs, rHs k (some r) = (hs, some (r.drop (32 * k))) ∧ hb hs = r.take (32 * k) ∧ hs.length = k
  | 0, r, _ => ⟨[], by simp [rHs], by simp [hb], rfl⟩
  | k + 1, r, h => by
    have h0 : rHash (some r) = (toH (r.take 32), some (r.drop 32)) := by simp [rHash, rTake, show 32 ≤ r.length by omega]
    obtain ⟨hs, h1, h2, h3⟩ := rHs_some k (r.drop 32) (by rw [List.length_drop]; omega)
    refine ⟨toH (r.take 32) :: hs, ?_, ?_, by simp [h3]⟩
    · rw [rHs, h0, h1, List.drop_drop, show 32 + 32 * k = 32 * (k + 1) by omega]
    · unfold hb at h2 ⊢
      rw [List.flatMap_cons, h2, toH_of _ (by rw [List.length_take]; omega), show 32 * (k + 1) = 32 + 32 * k by omega, List.take_add]
theorem rHs_len : ∀ (k : Nat) (s : RdSt), (rHs k s).1.length = k
  | 0, _ => rfl
  | k + 1, s => by rw [rHs, List.length_cons, rHs_len k]
theorem rHs_none : ∀ (k : Nat), (rHs k none).2 = none
  | 0 => rfl
  | k + 1 => by
    rw [rHs]
    exact rHs_none k
/-- What Parse reads. -/
def pS (bs : List UInt8) : Int × RdSt := rCount 0 1048576 (some bs)
def pH (bs : List UInt8) : List Hsh × RdSt := rHashes 64 (pS bs).2
def pOk (bs : List UInt8) : Bool := isDone (pH bs).2 && decide ((pH bs).1.length = pop (pS bs).1.toNat)
theorem pS_le (bs : List UInt8) : 0 ≤ (pS bs).1 ∧ (pS bs).1 ≤ 1048576 := by
  unfold pS rCount
  split
  · rename_i n r _
    by_cases h : n < 0 ∨ 1048576 < n
    · rw [if_pos h]; simp
    · rw [if_neg h]; simp; omega
  · simp
theorem pH_le (bs : List UInt8) : (pH bs).1.length ≤ 64 := by
  unfold pH rHashes
  rw [rHs_len]
  unfold rMany
  split
  · rename_i l r _
    by_cases h : (64 : Int) < num l ∨ r.length / 32 < num l
    · rw [if_pos h]; simp
    · rw [if_neg h]; simp; omega
  · simp
/-- Read back. -/
theorem parse_bytes (n : Nat) (ps : List Hsh) (hn : n ≤ 1048576) (hp : ps.length ≤ 64) : pS (rgB n ps) = ((n : Int), some (be 4 ps.length ++ hb ps)) ∧ pH (rgB n ps) = (ps, some []) := by
  have hb8 : (be 8 (n : Int)).length = 8 := be_length 8 _
  have hb4 : (be 4 (ps.length : Int)).length = 4 := be_length 4 _
  have h1 : pS (rgB n ps) = ((n : Int), some (be 4 ps.length ++ hb ps)) := by
    unfold pS rCount rInt rgB
    have ht : rTake 8 (some (be 8 (n : Int) ++ (be 4 (ps.length : Int) ++ hb ps))) = some (be 8 (n : Int), be 4 (ps.length : Int) ++ hb ps) := by
      rw [rTake, if_pos (by rw [List.length_append]; omega), List.take_left' hb8, List.drop_left' hb8]
    rw [ht]
    have hnum := num_be8 (n : Int)
    have hw : wrap64 (num (be 8 (n : Int)) : Nat) = n := by
      rw [show (num (be 8 (n : Int)) : Int) = ((n : Nat) : Int) by omega]
      exact IntWalk.wrap64_in _ ⟨by omega, by omega⟩
    simp only [hw]
    rw [if_neg (by omega)]
  refine ⟨h1, ?_⟩
  unfold pH rHashes
  rw [h1]
  have hm : rMany 64 32 (some (be 4 (ps.length : Int) ++ hb ps)) = (ps.length, some (hb ps)) := by
    unfold rMany
    have ht : rTake 4 (some (be 4 (ps.length : Int) ++ hb ps)) = some (be 4 (ps.length : Int), hb ps) := by
      rw [rTake, if_pos (by rw [List.length_append]; omega), List.take_left' hb4, List.drop_left' hb4]
    rw [ht]
    simp only [num_be4' ps.length (by omega), hb_length]
    rw [if_neg (by omega)]
  rw [hm]
  obtain ⟨hs, e1, e2, e3⟩ := rHs_some ps.length (hb ps) (by rw [hb_length]; omega)
  have hl : 32 * ps.length = (hb ps).length := by rw [hb_length]; omega
  rw [hl, List.take_length] at e2
  rw [hl, List.drop_length] at e1
  rw [e1, hb_inj hs ps e2 e3]
/-- Just these bytes. -/
theorem bytes_parse (bs : List UInt8) (h : pOk bs = true) : rgB (pS bs).1.toNat (pH bs).1 = bs := by
  unfold pOk at h
  rw [Bool.and_eq_true] at h
  have hd := h.1
  clear h
  unfold pH rHashes at *
  cases ht : rTake 8 (some bs) with
  | none =>
    have h0 : pS bs = (0, none) := by simp [pS, rCount, rInt, ht]
    rw [h0] at hd
    rw [show rMany 64 32 none = (0, none) from rfl] at hd
    cases hd
  | some x =>
    obtain ⟨l, r⟩ := x
    obtain ⟨b, hb0, hb8, rfl, rfl⟩ := rTake_good ht
    obtain rfl := Option.some.inj hb0
    have hl8 : (bs.take 8).length = 8 := by rw [List.length_take]; omega
    have hlt := num_lt (bs.take 8)
    rw [hl8] at hlt
    by_cases hc : wrap64 (num (bs.take 8) : Nat) < 0 ∨ 1048576 < wrap64 (num (bs.take 8) : Nat)
    · have h0 : pS bs = (0, none) := by simp [pS, rCount, rInt, ht, hc]
      rw [h0] at hd
      rw [show rMany 64 32 none = (0, none) from rfl] at hd
      cases hd
    · have hw : wrap64 (num (bs.take 8) : Nat) = (num (bs.take 8) : Nat) := by
        rcases Nat.lt_or_ge (num (bs.take 8)) 9223372036854775808 with h1 | h1
        · exact IntWalk.wrap64_in _ ⟨by omega, by omega⟩
        · exfalso
          have : wrap64 ((num (bs.take 8) : Nat) : Int) = (num (bs.take 8) : Int) - 18446744073709551616 := by
            unfold wrap64
            omega
          omega
      have h0 : pS bs = (((num (bs.take 8) : Nat) : Int), some (bs.drop 8)) := by
        unfold pS rCount rInt
        rw [ht]
        simp only
        rw [if_neg hc, hw]
      rw [h0] at hd ⊢
      simp only at hd ⊢
      cases ht4 : rTake 4 (some (bs.drop 8)) with
      | none =>
        have hm : rMany 64 32 (some (bs.drop 8)) = (0, none) := by simp [rMany, ht4]
        rw [hm] at hd
        cases hd
      | some y =>
        obtain ⟨l4, r4⟩ := y
        obtain ⟨b4, hb40, hb44, rfl, rfl⟩ := rTake_good ht4
        obtain rfl := Option.some.inj hb40
        have hl4 : ((bs.drop 8).take 4).length = 4 := by rw [List.length_take]; omega
        by_cases hc4 : (64 : Int) < num ((bs.drop 8).take 4) ∨ ((bs.drop 8).drop 4).length / 32 < num ((bs.drop 8).take 4)
        · have hm : rMany 64 32 (some (bs.drop 8)) = (0, none) := by
            unfold rMany
            rw [ht4]
            simp only
            rw [if_pos hc4]
          rw [hm] at hd
          cases hd
        · have hm : rMany 64 32 (some (bs.drop 8)) = (num ((bs.drop 8).take 4), some ((bs.drop 8).drop 4)) := by
            unfold rMany
            rw [ht4]
            simp only
            rw [if_neg hc4]
          rw [hm] at hd ⊢
          simp only at hd ⊢
          obtain ⟨hs, e1, e2, e3⟩ := rHs_some (num ((bs.drop 8).take 4)) ((bs.drop 8).drop 4) (by omega)
          rw [e1] at hd ⊢
          simp only at hd ⊢
          have hnil : ((bs.drop 8).drop 4).drop (32 * num ((bs.drop 8).take 4)) = [] := by
            generalize ((bs.drop 8).drop 4).drop (32 * num ((bs.drop 8).take 4)) = z at hd
            cases z with
            | nil => rfl
            | cons x z => cases hd
          have htk : hb hs = (bs.drop 8).drop 4 := by
            rw [e2]
            have := List.take_append_drop (32 * num ((bs.drop 8).take 4)) ((bs.drop 8).drop 4)
            rwa [hnil, List.append_nil] at this
          unfold rgB
          rw [htk, e3, Int.toNat_natCast, be8_num _ hl8, be4_num _ hl4, List.take_append_drop, List.take_append_drop]
end Go.Proofs.YtalnkhgonfcabaaDoor
