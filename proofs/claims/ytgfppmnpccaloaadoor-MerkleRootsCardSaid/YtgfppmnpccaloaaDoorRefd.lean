/-
  The reference's Path: of which places the roots stand in a path.
-/
import Derived.Test.YtgfppmnpccaloaaDoorRefb
import Derived.Test.YtgfppmnpccaloaaDoorMerk4
namespace Go.Proofs.YtgfppmnpccaloaaDoor
open Go.RowKit

def pairC (p : Nat × Nat) : List Value := [.int .i64 p.1, .int .i64 p.2]
def pairV (p : Nat × Nat) : Value := .agg (pairC p).toArray
def prs (l : List (Nat × Nat)) : List Value := l.flatMap pairC
theorem prs_length (l : List (Nat × Nat)) : (prs l).length = l.length * 2 := by
  induction l with
  | nil => rfl
  | cons p l ih => simp only [prs, List.flatMap_cons, List.length_append, List.length_cons] at ih ⊢; rw [ih]; simp [pairC]; omega
theorem prs_snoc (l : List (Nat × Nat)) (p : Nat × Nat) : prs (l ++ [p]) = prs l ++ pairC p := by simp [prs]
theorem prs_at (l : List (Nat × Nat)) : ∀ (k : Nat) (hk : k < l.length) (j : Nat) (v : Value), (pairC l[k])[j]? = some v → (prs l)[k * 2 + j]? = some v := by
  induction l with
  | nil => intro k hk; simp at hk
  | cons p l ih =>
    intro k hk j v h
    cases k with
    | zero =>
      have hj : j < 2 := (List.getElem?_eq_some_iff.1 h).1
      simp only [prs, List.flatMap_cons, Nat.zero_mul, Nat.zero_add]
      rw [List.getElem?_append_left (by simpa [pairC] using hj)]; exact h
    | succ k =>
      simp only [prs, List.flatMap_cons]
      rw [List.getElem?_append_right (by simp [pairC]; omega)]
      have := ih k (by simpa using hk) j v (by simpa using h)
      rw [show (k + 1) * 2 + j - (pairC p).length = k * 2 + j by simp [pairC]; omega]
      exact this
theorem pairC_one (p : Nat × Nat) : ∀ v ∈ pairC p, v.oneCell' = true := by
  intro v hv; simp [pairC] at hv; rcases hv with rfl | rfl <;> rfl
theorem prs_one (l : List (Nat × Nat)) : ∀ v ∈ prs l, v.oneCell' = true := by
  intro v hv; simp only [prs, List.mem_flatMap] at hv; obtain ⟨p, _, h⟩ := hv; exact pairC_one p v h


def rpath : Nat → Nat → Nat → Nat → List (Nat × Nat)
  | 0, _, _, _ => []
  | f + 1, a, n, i => if n ≤ 1 then [] else if i < a + sp n then rpath f a (sp n) i ++ [(a + sp n, a + n)] else rpath f (a + sp n) (n - sp n) i ++ [(a, a + sp n)]
theorem rpath_length : ∀ (f a n i : Nat), n ≤ 1099511627776 → 1 ≤ n → (rpath f a n i).length ≤ n
  | 0, _, _, _, _, _ => by simp [rpath]
  | f + 1, a, n, i, hb, h1 => by
    unfold rpath
    by_cases hn : n ≤ 1
    · simp [hn]
    · obtain ⟨_, _, s1, s2, s3⟩ := sp_spec n (by omega) (by omega)
      have e1 := rpath_length f a (sp n) i (by omega) (by omega)
      have e2 := rpath_length f (a + sp n) (n - sp n) i (by omega) (by omega)
      rw [if_neg hn]
      split
      · simp; omega
      · simp; omega
/-- Each pair is a part of the places, not empty. -/
theorem rpath_ok : ∀ (f a n i : Nat), n ≤ 1099511627776 → 1 ≤ n → ∀ p ∈ rpath f a n i, a ≤ p.1 ∧ p.1 < p.2 ∧ p.2 ≤ a + n
  | 0, _, _, _, _, _ => by simp [rpath]
  | f + 1, a, n, i, hb, h1 => by
    unfold rpath
    by_cases hn : n ≤ 1
    · simp [hn]
    · obtain ⟨_, _, s1, s2, s3⟩ := sp_spec n (by omega) (by omega)
      have e1 := rpath_ok f a (sp n) i (by omega) (by omega)
      have e2 := rpath_ok f (a + sp n) (n - sp n) i (by omega) (by omega)
      rw [if_neg hn]
      intro p hp
      split at hp
      · rcases List.mem_append.1 hp with h | h
        · have := e1 p h; omega
        · simp at h; subst h; simp; omega
      · rcases List.mem_append.1 hp with h | h
        · have := e2 p h; omega
        · simp at h; subst h; simp; omega
/-- Their roots are the path. -/
theorem rpath_roots (l : List Hsh) : ∀ (f a n i : Nat), n ≤ f → n ≤ 1099511627776 → 1 ≤ n → a + n ≤ l.length → a ≤ i → i < a + n →
    (rpath f a n i).map (fun p => rootH ((l.drop p.1).take (p.2 - p.1))) = pathH ((l.drop a).take n) (i - a)
  | 0, _, _, _, h, _, h1, _, _, _ => by omega
  | f + 1, a, n, i, hf, hb, h1, hl, hi1, hi2 => by
    have hlen : ((l.drop a).take n).length = n := by rw [List.length_take, List.length_drop]; omega
    unfold rpath
    by_cases hn : n ≤ 1
    · rw [if_pos hn]
      unfold pathH
      rw [besH_one _ _ (by omega)]; rfl
    · obtain ⟨_, _, s1, s2, s3⟩ := sp_spec n (by omega) (by omega)
      have e1 : ((l.drop a).take n).take (sp n) = (l.drop a).take (sp n) := by rw [List.take_take]; congr 1; omega
      have e2 : ((l.drop a).take n).drop (sp n) = (l.drop (a + sp n)).take (n - sp n) := by rw [List.drop_take, List.drop_drop]
      rw [if_neg hn]
      by_cases hi : i < a + sp n
      · have hbes := besH_left ((l.drop a).take n) (i - a) (by omega) (by omega) (by rw [hlen]; omega)
        rw [hlen, e1, e2] at hbes
        have ih := rpath_roots l f a (sp n) i (by omega) (by omega) (by omega) (by omega) hi1 hi
        rw [if_pos hi, List.map_append, ih]
        unfold pathH
        rw [hbes]
        simp only [List.reverse_cons, List.map_cons, List.map_nil]
        rw [show a + n - (a + sp n) = n - sp n by omega]
      · have hbes := besH_right ((l.drop a).take n) (i - a) (by omega) (by omega) (by rw [hlen]; omega)
        rw [hlen, e1, e2] at hbes
        have ih := rpath_roots l f (a + sp n) (n - sp n) i (by omega) (by omega) (by omega) (by omega) (by omega) (by omega)
        rw [if_neg hi, List.map_append, ih]
        unfold pathH
        rw [hbes]
        simp only [List.reverse_cons, List.map_cons, List.map_nil]
        rw [show a + sp n - a = sp n by omega, show i - a - sp n = i - (a + sp n) by omega]
end Go.Proofs.YtgfppmnpccaloaaDoor
