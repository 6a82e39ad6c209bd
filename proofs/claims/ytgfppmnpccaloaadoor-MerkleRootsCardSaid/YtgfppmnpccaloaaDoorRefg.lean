/-
  The reference's Sub: of which places the roots stand in a proof.
-/
import Derived.Test.YtgfppmnpccaloaaDoorRefe
import Derived.Test.YtgfppmnpccaloaaDoorMerk5
namespace Go.Proofs.YtgfppmnpccaloaaDoor
open Go.RowKit

def rsub : Nat → Nat → Nat → Nat → Bool → List (Nat × Nat)
  | 0, _, _, _, _ => []
  | f + 1, a, n, m, wh => if n ≤ m then (if wh then [] else [(a, a + n)]) else if m ≤ sp n then rsub f a (sp n) m wh ++ [(a + sp n, a + n)] else rsub f (a + sp n) (n - sp n) (m - sp n) false ++ [(a, a + sp n)]
theorem rsub_length : ∀ (f a n m : Nat) (wh : Bool), n ≤ 1099511627776 → 1 ≤ m → m ≤ n → (rsub f a n m wh).length ≤ n
  | 0, _, _, _, _, _, _, _ => by simp [rsub]
  | f + 1, a, n, m, wh, hb, h1, h2 => by
    unfold rsub
    by_cases hn : n ≤ m
    · rw [if_pos hn]; split <;> simp <;> omega
    · obtain ⟨_, _, s1, s2, s3⟩ := sp_spec n (by omega) (by omega)
      rw [if_neg hn]
      split
      · have e1 := rsub_length f a (sp n) m wh (by omega) h1 (by omega)
        simp; omega
      · have e2 := rsub_length f (a + sp n) (n - sp n) (m - sp n) false (by omega) (by omega) (by omega)
        simp; omega
theorem rsub_ok : ∀ (f a n m : Nat) (wh : Bool), n ≤ 1099511627776 → 1 ≤ m → m ≤ n → ∀ p ∈ rsub f a n m wh, a ≤ p.1 ∧ p.1 < p.2 ∧ p.2 ≤ a + n
  | 0, _, _, _, _, _, _, _ => by simp [rsub]
  | f + 1, a, n, m, wh, hb, h1, h2 => by
    unfold rsub
    by_cases hn : n ≤ m
    · rw [if_pos hn]
      intro p hp
      split at hp
      · simp at hp
      · simp at hp; subst hp; simp; omega
    · obtain ⟨_, _, s1, s2, s3⟩ := sp_spec n (by omega) (by omega)
      rw [if_neg hn]
      intro p hp
      split at hp
      · rcases List.mem_append.1 hp with h | h
        · have := rsub_ok f a (sp n) m wh (by omega) h1 (by omega) p h; omega
        · simp at h; subst h; simp; omega
      · rcases List.mem_append.1 hp with h | h
        · have := rsub_ok f (a + sp n) (n - sp n) (m - sp n) false (by omega) (by omega) (by omega) p h; omega
        · simp at h; subst h; simp; omega
/-- Their roots are the proof. -/
theorem rsub_roots (l : List Hsh) : ∀ (f a n m : Nat) (wh : Bool), n ≤ f → n ≤ 1099511627776 → 1 ≤ m → m ≤ n → a + n ≤ l.length →
    (rsub f a n m wh).map (fun p => rootH ((l.drop p.1).take (p.2 - p.1))) = (besQ ((l.drop a).take n) m wh).reverse
  | 0, _, _, _, _, h, _, h1, h2, _ => by omega
  | f + 1, a, n, m, wh, hf, hb, h1, h2, hl => by
    have hlen : ((l.drop a).take n).length = n := by rw [List.length_take, List.length_drop]; omega
    unfold rsub
    by_cases hn : n ≤ m
    · rw [if_pos hn, besQ_end _ _ _ (by omega) (by omega)]
      cases wh with
      | true => rfl
      | false => simp
    · obtain ⟨_, _, s1, s2, s3⟩ := sp_spec n (by omega) (by omega)
      have e1 : ((l.drop a).take n).take (sp n) = (l.drop a).take (sp n) := by rw [List.take_take]; congr 1; omega
      have e2 : ((l.drop a).take n).drop (sp n) = (l.drop (a + sp n)).take (n - sp n) := by rw [List.drop_take, List.drop_drop]
      rw [if_neg hn]
      by_cases hi : m ≤ sp n
      · have hbes := besQ_left ((l.drop a).take n) m wh (by omega) (by omega) h1 (by omega) (by rw [hlen]; omega)
        rw [hlen, e1, e2] at hbes
        have ih := rsub_roots l f a (sp n) m wh (by omega) (by omega) h1 hi (by omega)
        rw [if_pos hi, List.map_append, ih, hbes]
        simp only [List.reverse_cons, List.map_cons, List.map_nil]
        rw [show a + n - (a + sp n) = n - sp n by omega]
      · have hbes := besQ_right ((l.drop a).take n) m wh (by omega) (by omega) (by omega) (by rw [hlen]; omega)
        rw [hlen, e1, e2] at hbes
        have ih := rsub_roots l f (a + sp n) (n - sp n) (m - sp n) false (by omega) (by omega) (by omega) (by omega) (by omega)
        rw [if_neg hi, List.map_append, ih, hbes]
        simp only [List.reverse_cons, List.map_cons, List.map_nil]
        rw [show a + sp n - a = sp n by omega]

end Go.Proofs.YtgfppmnpccaloaaDoor
