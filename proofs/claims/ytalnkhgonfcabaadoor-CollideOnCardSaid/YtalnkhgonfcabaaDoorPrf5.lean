/-
  PROOFS that a list goes on, without the list: in plain Lean.
-/
import Derived.Test.YtalnkhgonfcabaaDoorPrf3
namespace Go.Proofs.YtalnkhgonfcabaaDoor
open Go.RowKit

/-! ### Past the levels of a whole tree -/
def stN : Nat → Nat → Nat → Nat × Nat
  | 0, a, z => (a, z)
  | f + 1, a, z => if a % 2 = 1 then stN f (a / 2) (z / 2) else (a, z)
def st (a z : Nat) : Nat × Nat := stN a a z
theorem stN_more : ∀ (f g a z : Nat), a ≤ f → a ≤ g → stN f a z = stN g a z
  | 0, 0, _, _, _, _ => rfl
  | 0, g + 1, a, z, h, _ => by rw [stN, stN, if_neg (by omega)]
  | f + 1, 0, a, z, _, h => by rw [stN, stN, if_neg (by omega)]
  | f + 1, g + 1, a, z, h1, h2 => by
    rw [stN, stN]
    split
    · exact stN_more f g _ _ (by omega) (by omega)
    · rfl
theorem st_odd (a z : Nat) (h : a % 2 = 1) : st a z = st (a / 2) (z / 2) := by
  unfold st
  obtain ⟨f, rfl⟩ : ∃ f, a = f + 1 := ⟨a - 1, by omega⟩
  rw [stN, if_pos h]
  exact stN_more _ _ _ _ (by omega) (Nat.le_refl _)
theorem st_even (a z : Nat) (h : a % 2 = 0) : st a z = (a, z) := by
  unfold st
  cases a with
  | zero => rfl
  | succ f => rw [stN, if_neg (by omega)]
theorem st_le (a z : Nat) (h : a ≤ z) : (st a z).1 ≤ (st a z).2 ∧ (st a z).2 ≤ z := by
  induction a using Nat.strongRecOn generalizing z with
  | _ a ih =>
    by_cases ha : a % 2 = 1
    · rw [st_odd a z ha]; have := ih (a / 2) (by omega) (z / 2) (by omega); omega
    · rw [st_even a z (by omega)]; exact ⟨h, Nat.le_refl _⟩
def gL (a z : Nat) : List Bool := sideL (st a z).1 (st a z).2
theorem gL_odd (a z : Nat) (h : a % 2 = 1) : gL a z = gL (a / 2) (z / 2) := by unfold gL; rw [st_odd a z h]
theorem gL_even (a z : Nat) (h : a % 2 = 0) : gL a z = sideL a z := by unfold gL; rw [st_even a z h]
theorem gL_left : ∀ (j i z : Nat), i < 2 ^ j → 2 ^ j ≤ z → z < 2 ^ (j + 1) → gL i z = (if i = 2 ^ j - 1 then [] else gL i (2 ^ j - 1)) ++ [false]
  | 0, i, z, h1, h2, h3 => by
    obtain rfl : i = 0 := by omega
    obtain rfl : z = 1 := by omega
    decide
  | j + 1, i, z, h1, h2, h3 => by
    have e1 : 2 ^ (j + 1) = 2 * 2 ^ j := by rw [Nat.pow_succ]; omega
    have e2 : 2 ^ (j + 1 + 1) = 4 * 2 ^ j := by rw [Nat.pow_succ, Nat.pow_succ]; omega
    have hp : 0 < 2 ^ j := Nat.pow_pos (by decide)
    by_cases hi : i % 2 = 1
    · have ih := gL_left j (i / 2) (z / 2) (by omega) (by omega) (by omega)
      rw [gL_odd i z hi, ih, gL_odd i (2 ^ (j + 1) - 1) hi, show (2 ^ (j + 1) - 1) / 2 = 2 ^ j - 1 by omega]
      by_cases hh : i / 2 = 2 ^ j - 1
      · rw [if_pos hh, if_pos (by omega)]
      · rw [if_neg hh, if_neg (by omega)]
    · rw [gL_even i z (by omega), gL_even i (2 ^ (j + 1) - 1) (by omega), if_neg (by omega), sideL_left (j + 1) i z h1 h2 h3]
theorem gL_right (z i j : Nat) (h1 : i < z) (h2 : z < 2 ^ j) : gL (2 ^ j + i) (2 ^ j + z) = gL i z ++ [true] := by
  induction z using Nat.strongRecOn generalizing i j with
  | _ z ih =>
    obtain ⟨j, rfl⟩ : ∃ j', j = j' + 1 := ⟨j - 1, by
      rcases j with _ | j
      · simp at h2; omega
      · omega⟩
    have e1 : 2 ^ (j + 1) = 2 * 2 ^ j := by rw [Nat.pow_succ]; omega
    by_cases hi : i % 2 = 1
    · rw [gL_odd _ _ (by omega), gL_odd i z hi, show (2 ^ (j + 1) + i) / 2 = 2 ^ j + i / 2 by omega, show (2 ^ (j + 1) + z) / 2 = 2 ^ j + z / 2 by omega, ih (z / 2) (by omega) (i / 2) j (by omega) (by omega)]
    · rw [gL_even _ _ (by omega), gL_even i z (by omega), sideL_right z i (j + 1) (by omega) h2]
theorem st_pos (j i z : Nat) (h : i + 1 < 2 ^ j) : 0 < (st (2 ^ j + i) z).1 := by
  induction j generalizing i z with
  | zero => simp at h
  | succ j ih =>
    have e1 : 2 ^ (j + 1) = 2 * 2 ^ j := by rw [Nat.pow_succ]; omega
    by_cases hi : i % 2 = 1
    · rw [st_odd _ _ (by omega), show (2 ^ (j + 1) + i) / 2 = 2 ^ j + i / 2 by omega]
      exact ih (i / 2) (z / 2) (by omega)
    · rw [st_even _ _ (by omega)]; simp only; omega
theorem st_ones (j z : Nat) : (st (2 ^ j - 1) z).1 = 0 := by
  induction j generalizing z with
  | zero => rfl
  | succ j ih =>
    have e1 : 2 ^ (j + 1) = 2 * 2 ^ j := by rw [Nat.pow_succ]; omega
    have hp : 0 < 2 ^ j := Nat.pow_pos (by decide)
    rw [st_odd _ _ (by omega), show (2 ^ (j + 1) - 1) / 2 = 2 ^ j - 1 by omega]
    exact ih _
theorem st_fst (a y z : Nat) : (st a y).1 = (st a z).1 := by
  induction a using Nat.strongRecOn generalizing y z with
  | _ a ih =>
    by_cases ha : a % 2 = 1
    · rw [st_odd a y ha, st_odd a z ha]; exact ih (a / 2) (by omega) _ _
    · rw [st_even a y (by omega), st_even a z (by omega)]

/-! ### The document's -/
def stepF : Nat → Nat → Nat → List Bool
  | 0, _, _ => []
  | f + 1, m, n => if n ≤ m then [] else if m ≤ sp n then stepF f m (sp n) ++ [false] else stepF f (m - sp n) (n - sp n) ++ [true]
def ownF : Nat → Nat → Nat → Bool → Bool
  | 0, _, _, wh => !wh
  | f + 1, m, n, wh => if n ≤ m then !wh else if m ≤ sp n then ownF f m (sp n) wh else ownF f (m - sp n) (n - sp n) false
theorem ownF_false : ∀ (f m n : Nat), ownF f m n false = true
  | 0, _, _ => rfl
  | f + 1, m, n => by
    rw [ownF]
    split
    · rfl
    · split
      · exact ownF_false f _ _
      · exact ownF_false f _ _
theorem stepF_is : ∀ (f m n : Nat), n ≤ f → 1 ≤ m → m < n → n ≤ 9223372036854775808 → stepF f m n = gL (m - 1) (n - 1) ∧ ownF f m n true = decide (0 < (st (m - 1) (n - 1)).1)
  | 0, _, _, h, _, h1, _ => by omega
  | f + 1, m, n, hf, h1, h2, hb => by
    obtain ⟨_, _, s1, s2, s3⟩ := sp_spec n (by omega) (by omega)
    have hnm : ¬ n ≤ m := by omega
    rw [stepF, ownF, if_neg hnm, if_neg hnm]
    obtain ⟨j, hj⟩ : ∃ j, sp n = 2 ^ j := ⟨_, rfl⟩
    have e1 : 2 ^ (j + 1) = 2 * 2 ^ j := by rw [Nat.pow_succ]; omega
    rw [hj] at s1 s2 s3
    rw [hj]
    by_cases hm : m ≤ 2 ^ j
    · rw [if_pos hm, if_pos hm]
      have hl := gL_left j (m - 1) (n - 1) (by omega) (by omega) (by omega)
      by_cases he : m = 2 ^ j
      · subst he
        rw [if_pos rfl] at hl
        rw [hl, st_ones]
        have h3 : stepF f (2 ^ j) (2 ^ j) = [] := by
          cases f with
          | zero => rfl
          | succ f => rw [stepF, if_pos (Nat.le_refl _)]
        have h4 : ownF f (2 ^ j) (2 ^ j) true = false := by
          cases f with
          | zero => rfl
          | succ f => rw [ownF, if_pos (Nat.le_refl _)]; rfl
        rw [h3, h4]
        exact ⟨rfl, by simp⟩
      · rw [if_neg (by omega)] at hl
        obtain ⟨h3, h4⟩ := stepF_is f m (2 ^ j) (by omega) h1 (by omega) (by omega)
        rw [h3, h4, hl, st_fst (m - 1) (2 ^ j - 1) (n - 1)]
        exact ⟨rfl, rfl⟩
    · rw [if_neg hm, if_neg hm, ownF_false]
      obtain ⟨h3, _⟩ := stepF_is f (m - 2 ^ j) (n - 2 ^ j) (by omega) (by omega) (by omega) (by omega)
      have hr := gL_right (n - 2 ^ j - 1) (m - 2 ^ j - 1) j (by omega) (by omega)
      rw [show 2 ^ j + (m - 2 ^ j - 1) = m - 1 by omega, show 2 ^ j + (n - 2 ^ j - 1) = n - 1 by omega] at hr
      have hp := st_pos j (m - 2 ^ j - 1) (n - 1) (by omega)
      rw [show 2 ^ j + (m - 2 ^ j - 1) = m - 1 by omega] at hp
      rw [h3, hr]
      exact ⟨rfl, by simp [hp]⟩

/-! ### What a proof leads to -/
def foldA : Hsh → List Hsh → List Bool → Hsh
  | h, p :: ps, b :: bs => foldA (if b then nodeH p h else h) ps bs
  | h, _, _ => h
theorem foldA_snoc : ∀ (ps : List Hsh) (bs : List Bool) (h p : Hsh) (b : Bool), ps.length = bs.length → foldA h (ps ++ [p]) (bs ++ [b]) = if b then nodeH p (foldA h ps bs) else foldA h ps bs
  | [], [], h, p, b, _ => rfl
  | [], _ :: _, _, _, _, hl => by simp at hl
  | _ :: _, [], _, _, _, hl => by simp at hl
  | q :: ps, c :: bs, h, p, b, hl => by
    rw [List.cons_append, List.cons_append, foldA, foldA]
    exact foldA_snoc ps bs _ p b (by simpa using hl)
theorem foldS_snoc : ∀ (ps : List Hsh) (bs : List Bool) (h p : Hsh) (b : Bool), ps.length = bs.length → foldS h (ps ++ [p]) (bs ++ [b]) = joinH (foldS h ps bs) p b
  | [], [], h, p, b, _ => rfl
  | [], _ :: _, _, _, _, hl => by simp at hl
  | _ :: _, [], _, _, _, hl => by simp at hl
  | q :: ps, c :: bs, h, p, b, hl => by
    rw [List.cons_append, List.cons_append, foldS, foldS]
    exact foldS_snoc ps bs _ p b (by simpa using hl)
/-- As the program goes. -/
def bothF : Nat → Nat → Hsh → Hsh → List Hsh → Option (Hsh × Hsh)
  | _, z, f, s, [] => if z = 0 then some (f, s) else none
  | a, z, f, s, p :: ps => if z = 0 then none else if a % 2 = 1 then bothF (a / 2) (z / 2) (nodeH p f) (nodeH p s) ps else if a = z then bothF (odd a / 2) (odd a / 2) (nodeH p f) (nodeH p s) ps else bothF (a / 2) (z / 2) f (nodeH s p) ps
theorem bothF_is : ∀ (ps : List Hsh) (a z : Nat) (f s : Hsh), a ≤ z → bothF a z f s ps = if ps.length = (sideL a z).length then some (foldA f ps (sideL a z), foldS s ps (sideL a z)) else none
  | [], a, z, f, s, hz => by
    rw [bothF]
    by_cases h0 : z = 0
    · subst h0; rw [sideL_zero]; rfl
    · rw [if_neg h0, if_neg]
      intro hh
      have hnil : sideL a z = [] := List.eq_nil_of_length_eq_zero hh.symm
      by_cases ha : a % 2 = 1
      · rw [sideL_odd a z (by omega) ha] at hnil; cases hnil
      · by_cases hl : a = z
        · subst hl; rw [sideL_last a (by omega) (by omega)] at hnil; cases hnil
        · rw [sideL_even a z (by omega) (by omega) hl] at hnil; cases hnil
  | p :: ps, a, z, f, s, hz => by
    rw [bothF]
    by_cases h0 : z = 0
    · subst h0; rw [if_pos rfl, sideL_zero, if_neg (by simp)]
    · rw [if_neg h0]
      by_cases ha : a % 2 = 1
      · rw [if_pos ha, bothF_is ps _ _ _ _ (by omega), sideL_odd a z (by omega) ha]
        simp only [List.length_cons, Nat.add_right_cancel_iff]; rfl
      · rw [if_neg ha]
        by_cases hl : a = z
        · subst hl
          rw [if_pos rfl, bothF_is ps _ _ _ _ (Nat.le_refl _), sideL_last a (by omega) (by omega)]
          simp only [List.length_cons, Nat.add_right_cancel_iff]; rfl
        · rw [if_neg hl, bothF_is ps _ _ _ _ (by omega), sideL_even a z (by omega) (by omega) hl]
          simp only [List.length_cons, Nat.add_right_cancel_iff]; rfl
/-- From the first of m. -/
def bothR (m n : Nat) (old : Hsh) (ps : List Hsh) : Option (Hsh × Hsh) :=
  if 0 < (st (m - 1) (n - 1)).1 then (match ps with
    | [] => none
    | q :: qs => bothF (st (m - 1) (n - 1)).1 (st (m - 1) (n - 1)).2 q q qs)
  else bothF (st (m - 1) (n - 1)).1 (st (m - 1) (n - 1)).2 old old ps

/-! ### What layer 7 tells is right -/
theorem besQ_right_is : ∀ (f : Nat) (l : List Hsh) (m : Nat) (wh : Bool), l.length ≤ f → 1 ≤ m → m ≤ l.length → l.length ≤ 9223372036854775808 →
    ∃ (s0 : Hsh) (rest : List Hsh), (besQ l m wh).reverse = (if ownF f m l.length wh then [s0] else []) ++ rest ∧ (ownF f m l.length wh = false → s0 = rootH (l.take m)) ∧ rest.length = (stepF f m l.length).length ∧ foldA s0 rest (stepF f m l.length) = rootH (l.take m) ∧ foldS s0 rest (stepF f m l.length) = rootH l
  | 0, l, m, _, h, h1, h2, _ => by omega
  | f + 1, l, m, wh, hf, h1, h2, hb => by
    by_cases hm : l.length ≤ m
    · obtain rfl : m = l.length := by omega
      refine ⟨rootH l, [], ?_, ?_, ?_, ?_, ?_⟩
      · rw [besQ_end l _ wh (by omega) hm, ownF, if_pos hm]
        cases wh <;> rfl
      · intro _; rw [List.take_length]
      · rw [stepF, if_pos hm]; rfl
      · rw [stepF, if_pos hm, List.take_length]; rfl
      · rfl
    · obtain ⟨_, _, s1, s2, s3⟩ := sp_spec l.length (by omega) hb
      have hsplit := rootH_split l (by omega) hb
      have hlt : (l.take (sp l.length)).length = sp l.length := by rw [List.length_take]; omega
      have hld : (l.drop (sp l.length)).length = l.length - sp l.length := by rw [List.length_drop]
      by_cases hk : m ≤ sp l.length
      · obtain ⟨s0, rest, e1, e2, e3, e4, e5⟩ := besQ_right_is f (l.take (sp l.length)) m wh (by omega) h1 (by omega) (by omega)
        rw [hlt] at e1 e2 e3 e4 e5
        have ht : (l.take (sp l.length)).take m = l.take m := by rw [List.take_take]; congr 1; omega
        rw [ht] at e2 e4
        refine ⟨s0, rest ++ [rootH (l.drop (sp l.length))], ?_, ?_, ?_, ?_, ?_⟩
        · rw [besQ_left l m wh (by omega) hb h1 (by omega) hk, List.reverse_cons, e1, ownF, if_neg hm, if_pos hk, List.append_assoc]
        · rw [ownF, if_neg hm, if_pos hk]; exact e2
        · rw [stepF, if_neg hm, if_pos hk, List.length_append, List.length_append, e3]; rfl
        · rw [stepF, if_neg hm, if_pos hk, foldA_snoc _ _ _ _ _ e3, e4]; rfl
        · rw [stepF, if_neg hm, if_pos hk, foldS_snoc _ _ _ _ _ e3, e5, hsplit]; rfl
      · obtain ⟨s0, rest, e1, e2, e3, e4, e5⟩ := besQ_right_is f (l.drop (sp l.length)) (m - sp l.length) false (by omega) (by omega) (by omega) (by omega)
        rw [hld] at e1 e2 e3 e4 e5
        have hsm : sp m = sp l.length := by
          obtain ⟨j, hj⟩ : ∃ j, sp l.length = 2 ^ j := ⟨_, rfl⟩
          rw [hj] at hk s3 ⊢
          exact sp_unique m j (by omega) (by omega) (by omega) (by omega)
        have htm : (l.take m).length = m := by rw [List.length_take]; omega
        have hsplit2 := rootH_split (l.take m) (by omega) (by omega)
        rw [htm, hsm] at hsplit2
        have h6 : (l.take m).take (sp l.length) = l.take (sp l.length) := by rw [List.take_take]; congr 1; omega
        have h7 : (l.take m).drop (sp l.length) = (l.drop (sp l.length)).take (m - sp l.length) := by rw [List.drop_take]
        rw [h6, h7] at hsplit2
        refine ⟨s0, rest ++ [rootH (l.take (sp l.length))], ?_, ?_, ?_, ?_, ?_⟩
        · rw [besQ_right l m wh (by omega) hb (by omega) hk, List.reverse_cons, e1, ownF, if_neg hm, if_neg hk, List.append_assoc]
        · rw [ownF, if_neg hm, if_neg hk, ownF_false]; intro hh; cases hh
        · rw [stepF, if_neg hm, if_neg hk, List.length_append, List.length_append, e3]; rfl
        · rw [stepF, if_neg hm, if_neg hk, foldA_snoc _ _ _ _ _ e3, e4, hsplit2]; rfl
        · rw [stepF, if_neg hm, if_neg hk, foldS_snoc _ _ _ _ _ e3, e5, hsplit]; rfl
/-- A list's proof leads to both its roots. -/
theorem both_right (l : List Hsh) (m : Nat) (h1 : 1 ≤ m) (h2 : m < l.length) (hb : l.length ≤ 9223372036854775808) : bothR m l.length (rootH (l.take m)) (proofH l m) = some (rootH (l.take m), rootH l) := by
  obtain ⟨s0, rest, e1, e2, e3, e4, e5⟩ := besQ_right_is l.length l m true (Nat.le_refl _) h1 (by omega) hb
  obtain ⟨e6, e7⟩ := stepF_is l.length m l.length (Nat.le_refl _) h1 h2 hb
  rw [e6] at e3 e4 e5
  unfold gL at e3 e4 e5
  have hle := st_le (m - 1) (l.length - 1) (by omega)
  unfold bothR proofH
  by_cases ho : 0 < (st (m - 1) (l.length - 1)).1
  · rw [if_pos ho, e1, e7, decide_eq_true ho, if_pos rfl]
    show bothF _ _ s0 s0 rest = _
    rw [bothF_is _ _ _ _ _ hle.1, if_pos e3]
    exact congrArg some (Prod.ext e4 e5)
  · rw [if_neg ho, e1, e7, decide_eq_false ho, if_neg (by simp), List.nil_append]
    rw [e7, decide_eq_false ho] at e2
    obtain rfl := e2 rfl
    rw [bothF_is _ _ _ _ _ hle.1, if_pos e3]
    exact congrArg some (Prod.ext e4 e5)
/-- A leaf's path leads to the root. -/
theorem lead_right : ∀ (f : Nat) (l : List Hsh) (i : Nat) (x : Hsh), l[i]? = some x → l.length ≤ f → l.length ≤ 9223372036854775808 →
    (pathH l i).length = (sideF f i l.length).length ∧ foldS x (pathH l i) (sideF f i l.length) = rootH l
  | 0, l, i, x, hx, h, _ => by have := (List.getElem?_eq_some_iff.1 hx).1; omega
  | f + 1, l, i, x, hx, hf, hb => by
    have hi := (List.getElem?_eq_some_iff.1 hx).1
    by_cases hn : l.length ≤ 1
    · have h0 : pathH l i = [] := by unfold pathH; rw [besH_one l i hn]; rfl
      rw [h0, sideF, if_pos hn]
      obtain ⟨y, rfl⟩ : ∃ y, l = [y] := by
        cases l with
        | nil => simp at hi
        | cons x r => cases r with
          | nil => exact ⟨x, rfl⟩
          | cons y r => simp at hn
      obtain rfl : i = 0 := by simp at hi; omega
      simp at hx; subst hx
      exact ⟨rfl, rfl⟩
    · obtain ⟨_, _, s1, s2, s3⟩ := sp_spec l.length (by omega) hb
      have hsplit := rootH_split l (by omega) hb
      have hlt : (l.take (sp l.length)).length = sp l.length := by rw [List.length_take]; omega
      have hld : (l.drop (sp l.length)).length = l.length - sp l.length := by rw [List.length_drop]
      rw [sideF, if_neg hn]
      by_cases hk : i < sp l.length
      · obtain ⟨e1, e2⟩ := lead_right f (l.take (sp l.length)) i x (by rw [List.getElem?_take, if_pos hk]; exact hx) (by omega) (by omega)
        rw [hlt] at e1 e2
        have hp : pathH l i = pathH (l.take (sp l.length)) i ++ [rootH (l.drop (sp l.length))] := by unfold pathH; rw [besH_left l i (by omega) hb hk, List.reverse_cons]
        rw [if_pos hk, hp]
        refine ⟨by rw [List.length_append, List.length_append, e1]; rfl, ?_⟩
        rw [foldS_snoc _ _ _ _ _ e1, hsplit, e2]; rfl
      · obtain ⟨e1, e2⟩ := lead_right f (l.drop (sp l.length)) (i - sp l.length) x (by rw [List.getElem?_drop, show sp l.length + (i - sp l.length) = i by omega]; exact hx) (by omega) (by omega)
        rw [hld] at e1 e2
        have hp : pathH l i = pathH (l.drop (sp l.length)) (i - sp l.length) ++ [rootH (l.take (sp l.length))] := by unfold pathH; rw [besH_right l i (by omega) hb hk, List.reverse_cons]
        rw [if_neg hk, hp]
        refine ⟨by rw [List.length_append, List.length_append, e1]; rfl, ?_⟩
        rw [foldS_snoc _ _ _ _ _ e1, hsplit, e2]; rfl
theorem path_right (l : List Hsh) (i : Nat) (x : Hsh) (hx : l[i]? = some x) (hb : l.length ≤ 9223372036854775808) : leadF i (l.length - 1) x (pathH l i) = some (rootH l) := by
  have hi := (List.getElem?_eq_some_iff.1 hx).1
  obtain ⟨e1, e2⟩ := lead_right l.length l i x hx (Nat.le_refl _) hb
  rw [sideF_is l.length i l.length (Nat.le_refl _) hi hb] at e1 e2
  rw [leadF_is _ _ _ _ (by omega), if_pos e1, e2]
end Go.Proofs.YtalnkhgonfcabaaDoor
