/-
  What layer 7 tells, held against layer 8's answers.
-/
import Derived.Test.YtalnkhgonfcabaaDoorPrf10
import Derived.Test.YtalnkhgonfcabaaDoorPrf9
import Derived.Test.YtalnkhgonfcabaaDoorMerk5
namespace Go.Proofs.YtalnkhgonfcabaaDoor
open Go.RowKit

/-- The proof that is told, of whatever beginning. -/
def proofA (l : List Hsh) (m : Nat) : List Hsh := if m = 0 ∨ m = l.length then [] else proofH l m
theorem proof_all (l : List Hsh) (a : Option Addr) (c : Nat) (m : Nat) (w : World) (hr : Rd w a l.length c 32 (hsc l)) (hll : l.length ≤ 65536) (hm : m ≤ l.length) (hL : Laid w) (h2 : 4 ≤ w.heap.size) :
    Calls Tryd.prog 67 #[.slice a l.length c, .int .i64 m] w fun e w' => ∃ v, e = .returned (.tuple #[v, .int .i64 0]) ∧ NewHs w v w' (proofA l m) := by
  unfold proofA
  by_cases h : m = 0 ∨ m = l.length
  · rw [if_pos h]
    refine (proof_ends l a c m w h).mono ?_
    rintro e w1 ⟨rfl, rfl⟩
    exact ⟨_, rfl, none, 0, rfl, World.ownsRow_nil _ _ _ _, by simp [aF], Kp.refl _ _⟩
  · rw [if_neg h]
    refine (proof_any l a c m w hr hll (by omega) (by omega) hL h2).mono ?_
    rintro e w1 ⟨v, rfl, hn⟩
    exact ⟨v, rfl, hn⟩
theorem on_right (l : List Hsh) (m : Nat) (hm : m ≤ l.length) (hb : l.length ≤ 9223372036854775808) : onV m l.length (rootH (l.take m)) (rootH l) (bothAll m l.length (rootH (l.take m)) (proofA l m)) = 0 := by
  unfold bothAll proofA
  by_cases h : m = 0 ∨ m = l.length
  · rw [if_pos h, if_pos h, List.length_nil, if_pos rfl]
    by_cases h0 : m = 0
    · subst h0
      have hz : rootH (l.take 0) = shaH [] := rfl
      rw [hz, onV, if_neg (by simp)]
      by_cases hn : 0 < l.length
      · rw [if_pos ⟨rfl, hn⟩]
      · have hl : l = [] := List.eq_nil_of_length_eq_zero (by omega)
        subst hl
        rw [if_neg (by simp), if_neg (by simp [rootH_nil])]
    · obtain rfl : m = l.length := by omega
      rw [List.take_length, onV, if_neg (by simp [h0]), if_neg (by simp [h0]), if_neg (by simp)]
  · rw [if_neg h, if_neg h, both_right l m (by omega) (by omega) hb, onV, if_neg (by intro hh; omega), if_neg (by intro hh; omega), if_neg (by simp)]
theorem in_right (l : List Hsh) (i : Nat) (x : Hsh) (hx : l[i]? = some x) (hb : l.length ≤ 9223372036854775808) : inV (rootH l) (leadF i (l.length - 1) x (pathH l i)) = 0 := by
  rw [path_right l i x hx hb]; simp [inV]
theorem path_len (l : List Hsh) (i : Nat) (hi : i < l.length) (hb : l.length ≤ 9223372036854775808) : (pathH l i).length = (sideL i (l.length - 1)).length := by
  rw [(lead_right l.length l i l[i] (List.getElem?_eq_getElem hi) (Nat.le_refl _) hb).1, sideF_is l.length i l.length (Nat.le_refl _) hi hb]
end Go.Proofs.YtalnkhgonfcabaaDoor
