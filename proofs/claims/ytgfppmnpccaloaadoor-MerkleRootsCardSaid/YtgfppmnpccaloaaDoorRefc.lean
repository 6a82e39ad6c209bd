/-
  The reference's order puts the root together.
-/
import Derived.Test.YtgfppmnpccaloaaDoorRefb
namespace Go.Proofs.YtgfppmnpccaloaaDoor
open Go.RowKit

def stepH (l : List Hsh) (st : Option (List Hsh)) (op : Int) : Option (List Hsh) :=
  st.bind fun s => if 0 ≤ op then (l[op.toNat]?).map (fun x => s ++ [x]) else if 2 ≤ s.length then some (s.take (s.length - 2) ++ [nodeH (s.getD (s.length - 2) zeroH) (s.getD (s.length - 1) zeroH)]) else none
theorem stepH_none (l : List Hsh) (ops : List Int) : ops.foldl (stepH l) none = none := by
  induction ops with
  | nil => rfl
  | cons o ops ih => simpa [List.foldl_cons, stepH] using ih

theorem run_rops (l : List Hsh) : ∀ (f a n : Nat) (s : List Hsh), n ≤ f → 1 ≤ n → a + n ≤ l.length → n ≤ 1099511627776 →
    (rops f a n).foldl (stepH l) (some s) = some (s ++ [rootH ((l.drop a).take n)])
  | 0, _, _, _, h, h1, _, _ => by omega
  | f + 1, a, n, s, h1, h2, h3, hb => by
    unfold rops
    by_cases hn : n ≤ 1
    · obtain rfl : n = 1 := by omega
      have ha : a < l.length := by omega
      have e : (l.drop a).take 1 = [l[a]] := by rw [List.drop_eq_getElem_cons ha]; rfl
      rw [if_pos (by omega), e, rootH_one]
      simp [stepH, ha]
    · obtain ⟨_, _, s1, s2, s3⟩ := sp_spec n (by omega) (by omega)
      have hlen : ((l.drop a).take n).length = n := by rw [List.length_take, List.length_drop]; omega
      have hs := rootH_split ((l.drop a).take n) (by omega) (by omega)
      rw [hlen] at hs
      have e1 : ((l.drop a).take n).take (sp n) = (l.drop a).take (sp n) := by rw [List.take_take]; congr 1; omega
      have e2 : ((l.drop a).take n).drop (sp n) = (l.drop (a + sp n)).take (n - sp n) := by rw [List.drop_take, List.drop_drop]
      rw [e1, e2] at hs
      rw [if_neg hn, List.foldl_append, List.foldl_append, run_rops l f a (sp n) s (by omega) (by omega) (by omega) (by omega), run_rops l f (a + sp n) (n - sp n) _ (by omega) (by omega) (by omega) (by omega), hs]
      obtain ⟨A, hA⟩ : ∃ A, A = rootH ((l.drop a).take (sp n)) := ⟨_, rfl⟩
      obtain ⟨B, hB⟩ : ∃ B, B = rootH ((l.drop (a + sp n)).take (n - sp n)) := ⟨_, rfl⟩
      rw [← hA, ← hB]
      have hl : (s ++ [A] ++ [B]).length = s.length + 2 := by simp
      have g1 : (s ++ [A] ++ [B]).getD (s.length + 2 - 2) zeroH = A := by simp [List.getD]
      have g2 : (s ++ [A] ++ [B]).getD (s.length + 2 - 1) zeroH = B := by
        rw [show s.length + 2 - 1 = (s ++ [A]).length by simp]
        rw [List.getD, List.getElem?_append_right (Nat.le_refl _)]; simp
      have g3 : (s ++ [A] ++ [B]).take (s.length + 2 - 2) = s := by simp
      rw [List.foldl_cons, List.foldl_nil, stepH, Option.bind_some, if_neg (by decide), hl, if_pos (by omega), g1, g2, g3]

/-- Before each step: some stack, and the step is one. -/
theorem run_at (l : List Hsh) (ops : List Int) (r : List Hsh) (h : ops.foldl (stepH l) (some []) = some r) (k : Nat) (hk : k < ops.length) :
    ∃ s s', (ops.take k).foldl (stepH l) (some []) = some s ∧ stepH l (some s) ops[k] = some s' ∧ (ops.take (k + 1)).foldl (stepH l) (some []) = some s' := by
  have e : ops = ops.take (k + 1) ++ ops.drop (k + 1) := (List.take_append_drop _ _).symm
  have h' := h
  rw [e, List.foldl_append] at h'
  have e1 : ops.take (k + 1) = ops.take k ++ [ops[k]] := List.take_succ_eq_append_getElem hk
  cases h2 : (ops.take (k + 1)).foldl (stepH l) (some []) with
  | none => rw [h2, stepH_none] at h'; cases h'
  | some s' =>
    have h3 := h2
    rw [e1, List.foldl_append, List.foldl_cons, List.foldl_nil] at h3
    cases h4 : (ops.take k).foldl (stepH l) (some []) with
    | none => rw [h4] at h3; simp [stepH] at h3
    | some s => rw [h4] at h3; exact ⟨s, s', rfl, h3, rfl⟩
end Go.Proofs.YtgfppmnpccaloaaDoor
