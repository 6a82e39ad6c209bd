/-
  A proof between two sizes, from its top down.
-/
import Derived.Test.YtalnkhgonfcabaaDoorPrf10
namespace Go.Proofs.YtalnkhgonfcabaaDoor

/-- A proof used along its steps (b: the sibling stands on the left). o: the first hash stands in the proof. -/
def genF (o : Bool) (st : List Bool) (old : Hsh) (ps : List Hsh) : Option (Hsh × Hsh) :=
  if o then (match ps with
    | [] => none
    | q :: qs => if qs.length = st.length then some (foldA q qs st, foldS q qs st) else none)
  else if ps.length = st.length then some (foldA old ps st, foldS old ps st) else none
def topJ (b : Bool) (s : Hsh) (r : Hsh × Hsh) : Hsh × Hsh := if b then (nodeH s r.1, nodeH s r.2) else (r.1, nodeH r.2 s)
theorem genF_nil (o : Bool) (st : List Bool) (b : Bool) (old : Hsh) : genF o (st ++ [b]) old [] = none := by
  unfold genF
  cases o
  · rw [if_neg (by decide), if_neg (by simp)]
  · rw [if_pos rfl]
theorem genF_snoc (o : Bool) (st : List Bool) (b : Bool) (old : Hsh) (q : List Hsh) (s : Hsh) : genF o (st ++ [b]) old (q ++ [s]) = (genF o st old q).map (topJ b s) := by
  have key : ∀ (h : Hsh) (q : List Hsh), q.length = st.length → some (foldA h (q ++ [s]) (st ++ [b]), foldS h (q ++ [s]) (st ++ [b])) = (some (foldA h q st, foldS h q st)).map (topJ b s) := fun h q hl => by
    rw [foldA_snoc _ _ _ _ _ hl, foldS_snoc _ _ _ _ _ hl, Option.map_some]
    cases b <;> rfl
  have hlen : ∀ q : List Hsh, ((q ++ [s]).length = (st ++ [b]).length) ↔ q.length = st.length := fun q => by simp
  unfold genF
  cases o
  · simp only [Bool.false_eq_true, if_false]
    by_cases hl : q.length = st.length
    · rw [if_pos ((hlen q).2 hl), if_pos hl, key old q hl]
    · rw [if_neg (fun h => hl ((hlen q).1 h)), if_neg hl]; rfl
  · simp only [if_true]
    cases q with
    | nil =>
      rw [List.nil_append]
      show (if ([] : List Hsh).length = (st ++ [b]).length then _ else none) = _
      rw [if_neg (by simp)]; rfl
    | cons q qs =>
      rw [List.cons_append]
      show (if (qs ++ [s]).length = (st ++ [b]).length then some _ else none) = (if qs.length = st.length then some _ else none).map _
      by_cases hl : qs.length = st.length
      · rw [if_pos ((hlen qs).2 hl), if_pos hl, key q qs hl]
      · rw [if_neg (fun h => hl ((hlen qs).1 h)), if_neg hl]; rfl
theorem bothAll_gen {m n : Nat} (h1 : 1 ≤ m) (hmn : m ≤ n) (hb : n ≤ 9223372036854775808) (old : Hsh) (ps : List Hsh) : bothAll m n old ps = genF (ownF n m n true) (stepF n m n) old ps := by
  obtain ⟨k, rfl⟩ : ∃ k, n = k + 1 := ⟨n - 1, by omega⟩
  unfold bothAll
  by_cases he : m = k + 1
  · have eo : ownF (k + 1) m (k + 1) true = false := by rw [ownF, if_pos (by omega)]; rfl
    have es : stepF (k + 1) m (k + 1) = [] := by rw [stepF, if_pos (by omega)]
    rw [if_pos (.inr he), eo, es]
    unfold genF
    rw [if_neg (show ¬ (false = true) by decide)]
    by_cases hp : ps.length = 0
    · rw [if_pos hp, if_pos (by rw [hp]; rfl), List.eq_nil_of_length_eq_zero hp]; rfl
    · rw [if_neg hp, if_neg (by rw [List.length_nil]; exact hp)]
  · rw [if_neg (by omega)]
    obtain ⟨e1, e2⟩ := stepF_is (k + 1) m (k + 1) (Nat.le_refl _) h1 (by omega) hb
    rw [e1, e2]
    have hle := st_le (m - 1) (k + 1 - 1) (by omega)
    unfold bothR genF gL
    by_cases ho : 0 < (st (m - 1) (k + 1 - 1)).1
    · rw [if_pos ho, decide_eq_true ho, if_pos rfl]
      cases ps with
      | nil => rfl
      | cons q qs => exact bothF_is _ _ _ _ _ hle.1
    · rw [if_neg ho, decide_eq_false ho, if_neg (by decide)]
      exact bothF_is _ _ _ _ _ hle.1
/-- The top step. -/
theorem gen_top {f m n : Nat} {own : Bool} {old : Hsh} {ps : List Hsh} {r : Hsh × Hsh} (hmn : m < n) (h : genF (ownF (f + 1) m n own) (stepF (f + 1) m n) old ps = some r) :
    ∃ q s x, ps = q ++ [s] ∧ (m ≤ sp n → genF (ownF f m (sp n) own) (stepF f m (sp n)) old q = some x ∧ r = (x.1, nodeH x.2 s)) ∧ (¬ m ≤ sp n → genF (ownF f (m - sp n) (n - sp n) false) (stepF f (m - sp n) (n - sp n)) old q = some x ∧ r = (nodeH s x.1, nodeH s x.2)) := by
  have eo : ownF (f + 1) m n own = if m ≤ sp n then ownF f m (sp n) own else ownF f (m - sp n) (n - sp n) false := by rw [ownF, if_neg (by omega)]
  have es : stepF (f + 1) m n = if m ≤ sp n then stepF f m (sp n) ++ [false] else stepF f (m - sp n) (n - sp n) ++ [true] := by rw [stepF, if_neg (by omega)]
  rw [eo, es] at h
  have hne : ps ≠ [] := by
    rintro rfl
    by_cases hk : m ≤ sp n
    · rw [if_pos hk, if_pos hk, genF_nil] at h; cases h
    · rw [if_neg hk, if_neg hk, genF_nil] at h; cases h
  obtain ⟨q, s, rfl⟩ : ∃ q s, ps = q ++ [s] := ⟨ps.dropLast, ps.getLast hne, (List.dropLast_concat_getLast hne).symm⟩
  by_cases hk : m ≤ sp n
  · rw [if_pos hk, if_pos hk, genF_snoc] at h
    obtain ⟨x, hx, rfl⟩ := Option.map_eq_some_iff.1 h
    exact ⟨q, s, x, rfl, fun _ => ⟨hx, rfl⟩, fun hh => absurd hk hh⟩
  · rw [if_neg hk, if_neg hk, genF_snoc] at h
    obtain ⟨x, hx, rfl⟩ := Option.map_eq_some_iff.1 h
    exact ⟨q, s, x, rfl, fun hh => absurd hh hk, fun _ => ⟨hx, rfl⟩⟩
/-- The end: the sizes are one. -/
theorem gen_end {f m n : Nat} {own : Bool} {old : Hsh} {ps : List Hsh} {r : Hsh × Hsh} (hmn : n ≤ m) (h : genF (ownF (f + 1) m n own) (stepF (f + 1) m n) old ps = some r) :
    (own = true → ps = [] ∧ r = (old, old)) ∧ (own = false → ∃ q, ps = [q] ∧ r = (q, q)) := by
  have eo : ownF (f + 1) m n own = !own := by rw [ownF, if_pos hmn]
  have es : stepF (f + 1) m n = [] := by rw [stepF, if_pos hmn]
  rw [eo, es] at h
  unfold genF at h
  cases own
  · refine ⟨fun h => (by cases h), fun _ => ?_⟩
    rw [Bool.not_false, if_pos rfl] at h
    cases ps with
    | nil => cases h
    | cons q qs =>
      have hq : qs = [] := by
        cases qs with
        | nil => rfl
        | cons y ys => simp at h
      subst hq
      exact ⟨q, rfl, (Option.some.inj h).symm⟩
  · refine ⟨fun _ => ?_, fun h => (by cases h)⟩
    rw [Bool.not_true, if_neg (by decide)] at h
    have hp : ps = [] := by
      cases ps with
      | nil => rfl
      | cons y ys => simp at h
    subst hp
    exact ⟨rfl, (Option.some.inj h).symm⟩
theorem gen_old {f m n : Nat} (old old' : Hsh) (ps : List Hsh) : genF (ownF f m n false) (stepF f m n) old ps = genF (ownF f m n false) (stepF f m n) old' ps := by
  rw [ownF_false]; rfl
end Go.Proofs.YtalnkhgonfcabaaDoor
