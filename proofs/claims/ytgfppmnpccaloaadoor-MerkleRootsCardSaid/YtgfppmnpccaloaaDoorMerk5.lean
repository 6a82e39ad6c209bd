/-
  merkle.Proof: the proof from a beginning.
-/
import Derived.Test.YtgfppmnpccaloaaDoorMerk4
namespace Go.Proofs.YtgfppmnpccaloaaDoor
open Go.RowKit

/-- The hashes beside a beginning's way, from the root down. -/
def besP : Nat → List Hsh → Nat → Bool → List Hsh
  | 0, _, _, _ => []
  | f + 1, l, m, wh => if l.length ≤ m then (if wh then [] else [rootH l]) else if m ≤ sp l.length then rootH (l.drop (sp l.length)) :: besP f (l.take (sp l.length)) m wh else rootH (l.take (sp l.length)) :: besP f (l.drop (sp l.length)) (m - sp l.length) false
theorem besP_more : ∀ (f g : Nat) (l : List Hsh) (m : Nat) (wh : Bool), l.length ≤ f → l.length ≤ g → l.length ≤ 9223372036854775808 → 1 ≤ m → m ≤ l.length → besP f l m wh = besP g l m wh
  | 0, _, _, _, _, h, _, _, _, _ => by omega
  | _, 0, _, _, _, _, h, _, _, _ => by omega
  | f + 1, g + 1, l, m, wh, hf, hg, hb, h1, h2 => by
    rw [besP, besP]
    split
    · rfl
    · obtain ⟨_, _, h3, h4, h5⟩ := sp_spec l.length (by omega) hb
      split
      · rw [besP_more f g (l.take (sp l.length)) _ _ (by rw [List.length_take]; omega) (by rw [List.length_take]; omega) (by rw [List.length_take]; omega) h1 (by rw [List.length_take]; omega)]
      · rw [besP_more f g (l.drop (sp l.length)) _ _ (by rw [List.length_drop]; omega) (by rw [List.length_drop]; omega) (by rw [List.length_drop]; omega) (by omega) (by rw [List.length_drop]; omega)]
def besQ (l : List Hsh) (m : Nat) (wh : Bool) : List Hsh := besP l.length l m wh
def proofH (l : List Hsh) (m : Nat) : List Hsh := (besQ l m true).reverse
theorem besQ_end (l : List Hsh) (m : Nat) (wh : Bool) (h : 1 ≤ l.length) (hm : l.length ≤ m) : besQ l m wh = if wh then [] else [rootH l] := by
  unfold besQ
  obtain ⟨f, hf⟩ : ∃ f, l.length = f + 1 := ⟨l.length - 1, by omega⟩
  rw [hf, besP, if_pos hm]
theorem besQ_left (l : List Hsh) (m : Nat) (wh : Bool) (h : 2 ≤ l.length) (hb : l.length ≤ 9223372036854775808) (h1 : 1 ≤ m) (hm : m < l.length) (hi : m ≤ sp l.length) : besQ l m wh = rootH (l.drop (sp l.length)) :: besQ (l.take (sp l.length)) m wh := by
  obtain ⟨_, _, h3, h4, h5⟩ := sp_spec l.length h hb
  obtain ⟨f, hf⟩ : ∃ f, l.length = f + 1 := ⟨l.length - 1, by omega⟩
  have e : besQ l m wh = rootH (l.drop (sp l.length)) :: besP f (l.take (sp l.length)) m wh := by
    unfold besQ
    rw [hf, besP, if_neg (by omega), if_pos (by rw [hf]; rw [hf] at hi; exact hi), hf]
  rw [e]; unfold besQ
  rw [besP_more f (l.take (sp l.length)).length _ _ _ (by rw [List.length_take]; omega) (Nat.le_refl _) (by rw [List.length_take]; omega) h1 (by rw [List.length_take]; omega)]
theorem besQ_right (l : List Hsh) (m : Nat) (wh : Bool) (h : 2 ≤ l.length) (hb : l.length ≤ 9223372036854775808) (hm : m < l.length) (hi : ¬ m ≤ sp l.length) : besQ l m wh = rootH (l.take (sp l.length)) :: besQ (l.drop (sp l.length)) (m - sp l.length) false := by
  obtain ⟨_, _, h3, h4, h5⟩ := sp_spec l.length h hb
  obtain ⟨f, hf⟩ : ∃ f, l.length = f + 1 := ⟨l.length - 1, by omega⟩
  have e : besQ l m wh = rootH (l.take (sp l.length)) :: besP f (l.drop (sp l.length)) (m - sp l.length) false := by
    unfold besQ
    rw [hf, besP, if_neg (by omega), if_neg (by rw [hf]; rw [hf] at hi; exact hi), hf]
  rw [e]; unfold besQ
  rw [besP_more f (l.drop (sp l.length)).length _ _ _ (by rw [List.length_drop]; omega) (Nat.le_refl _) (by rw [List.length_drop]; omega) (by omega) (by rw [List.length_drop]; omega)]

def Proof (l : List Hsh) (m : Nat) (w : World) (e : Ending) (w' : World) : Prop := ∃ v, e = .returned (.tuple #[v, .int .i64 0]) ∧ NewHs w v w' (proofH l m)



end Go.Proofs.YtgfppmnpccaloaaDoor
