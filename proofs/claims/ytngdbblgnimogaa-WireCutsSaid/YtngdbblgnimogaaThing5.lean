import Derived.Test.YtngdbblgnimogaaThing4
namespace Go.Proofs.Ytngdbblgnimogaa
open Go.RowKit

/-! ### What is written is read -/
theorem num_be4 (n : Nat) (h : n < 4294967296) : num (be 4 n) = n := by
  have := num_beTo 4 n 4 (Nat.le_refl _)
  simp [be] at this ⊢
  omega
theorem rMany_app {most : Int} {size : Nat} (n : Nat) (l : List UInt8) (h : n < 4294967296) (hm : (n : Int) ≤ most) (hs : n ≤ l.length / size) : rMany most size (some (be 4 n ++ l)) = (n, some l) := by
  have hl := be_length 4 n
  have ht : (be 4 n ++ l).take 4 = be 4 n := List.take_left' hl
  have hd : (be 4 n ++ l).drop 4 = l := List.drop_left' hl
  have hle : 4 ≤ (be 4 n ++ l).length := by rw [List.length_append, hl]; omega
  simp only [rMany, rTake, if_pos hle, ht, hd, num_be4 n h]
  rw [if_neg (by omega)]
theorem rBytes_app {most : Int} (t r : List UInt8) (h : t.length < 4294967296) (hm : (t.length : Int) ≤ most) : rBytes most (some (be 4 t.length ++ (t ++ r))) = (t, some r) := by
  have := rMany_app (most := most) (size := 1) t.length (t ++ r) h hm (by rw [List.length_append, Nat.div_one]; omega)
  simp only [rBytes, this]
  rw [List.take_left' rfl, List.drop_left' rfl]
theorem rHash_app (h : Hsh) (r : List UInt8) : rHash (some (h.1 ++ r)) = (h, some r) := by
  have ht : (h.1 ++ r).take 32 = h.1 := List.take_left' h.2
  have hd : (h.1 ++ r).drop 32 = r := List.drop_left' h.2
  have hle : 32 ≤ (h.1 ++ r).length := by rw [List.length_append, h.2]; omega
  simp only [rHash, rTake, if_pos hle, ht, hd]
  rw [Subtype.ext (a1 := toH h.1) (a2 := h) (toH_of h.1 h.2)]
theorem rHs_app : ∀ (l : List Hsh) (r : List UInt8), rHs l.length (some (hb l ++ r)) = (l, some r)
  | [], r => by simp [rHs, hb]
  | h :: l, r => by
    have e : hb (h :: l) ++ r = h.1 ++ (hb l ++ r) := by simp [hb]
    rw [List.length_cons, rHs_succ, e, rHash_app, rHs_app l r]
theorem rHashes_app {most : Int} (l : List Hsh) (r : List UInt8) (h : l.length < 4294967296) (hm : (l.length : Int) ≤ most) : rHashes most (some (be 4 l.length ++ (hb l ++ r))) = (l, some r) := by
  have := rMany_app (most := most) (size := 32) l.length (hb l ++ r) h hm (by rw [List.length_append, hb_length]; omega)
  simp only [rHashes, this, rHs_app]
theorem rBool_app (b : Bool) (r : List UInt8) : rBool (some ([if b then 1 else 0] ++ r)) = (b, some r) := by
  cases b <;> simp [rBool, rTake, num]

/-- A small thing. -/
structure ThS (x : Th) : Prop where
  i1 : -9223372036854775808 ≤ x.n
  i2 : x.n ≤ 9223372036854775807
  tx : x.text.size ≤ 300
  hl : x.hs.length ≤ 20
theorem ThOk.toS {w : World} {x : Th} (h : ThOk w x) : ThS x := ⟨h.i1, h.i2, h.tx, h.hl⟩

/-- Of a thing's bytes, and more: it is told as it was put, and the more is left. -/
theorem th_told (x : Th) (r : List UInt8) (h : ThS x) : ThGood x (some (thB x ++ r)) ∧ rThS x (some (thB x ++ r)) = some r := by
  have htx := h.tx
  have hhl := h.hl
  have h0 : x.kind = 0 → rInt (some (thB x ++ r)) = (x.n, some r) := fun k => by rw [thB_0 k]; exact rInt_app _ _ h.i1 h.i2
  have h1 : x.kind = 1 → rBytes 1000 (some (thB x ++ r)) = (sl x.text, some r) := fun k => by
    rw [thB_1 k, List.append_assoc]
    have := rBytes_app (most := 1000) (sl x.text) r (by rw [sl_length]; omega) (by rw [sl_length]; omega)
    rwa [sl_length] at this
  have h2 : x.kind = 2 → rHash (some (thB x ++ r)) = (x.hash, some r) := fun k => by rw [thB_2 k]; exact rHash_app _ _
  have h3 : x.kind = 3 → rHashes 1000 (some (thB x ++ r)) = (x.hs, some r) := fun k => by rw [thB_3 k, List.append_assoc]; exact rHashes_app _ _ (by omega) (by omega)
  have h4 : x.kind = 4 → rBool (some (thB x ++ r)) = (x.flag, some r) := fun k => by rw [thB_4 k]; exact rBool_app _ _
  refine ⟨⟨fun k => by rw [h0 k], fun k => by rw [h1 k], fun k => by rw [h2 k], fun k => by rw [h3 k], fun k => by rw [h4 k]⟩, ?_⟩
  by_cases k0 : x.kind = 0
  · rw [rThS_0 k0, h0 k0]
  by_cases k1 : x.kind = 1
  · rw [rThS_1 k1, h1 k1]
  by_cases k2 : x.kind = 2
  · rw [rThS_2 k2, h2 k2]
  by_cases k3 : x.kind = 3
  · rw [rThS_3 k3, h3 k3]
  by_cases k4 : x.kind = 4
  · rw [rThS_4 k4, h4 k4]
  · rw [rThS_5 k0 k1 k2 k3 k4, thB_5 k0 k1 k2 k3 k4]; rfl

theorem rHs_none : ∀ n, (rHs n none).2 = none
  | 0 => rfl
  | n + 1 => by rw [rHs_succ]; exact rHs_none n
/-- Nothing more is told once it is bad. -/
theorem th_bad (x : Th) : rThS x none = none := by
  by_cases k0 : x.kind = 0
  · rw [rThS_0 k0]; rfl
  by_cases k1 : x.kind = 1
  · rw [rThS_1 k1]; rfl
  by_cases k2 : x.kind = 2
  · rw [rThS_2 k2]; rfl
  by_cases k3 : x.kind = 3
  · rw [rThS_3 k3]; exact rHs_none _
  by_cases k4 : x.kind = 4
  · rw [rThS_4 k4]; rfl
  · rw [rThS_5 k0 k1 k2 k3 k4]

/-- Of a beginning of its bytes: it is bad. -/
theorem th_cut (x : Th) (m : Nat) (h : ThS x) (hm : m < (thB x).length) : rThS x (some ((thB x).take m)) = none := by
  have htx := h.tx
  have hhl := h.hl
  by_cases k0 : x.kind = 0
  · rw [rThS_0 k0]; rw [thB_0 k0] at hm ⊢; rw [be_length] at hm
    have : ¬ 8 ≤ ((be 8 x.n).take m).length := by rw [List.length_take, be_length]; omega
    simp only [rInt, rTake, if_neg this]
  by_cases k1 : x.kind = 1
  · rw [rThS_1 k1]; rw [thB_1 k1] at hm ⊢; rw [List.length_append, be_length, sl_length] at hm
    by_cases h4 : m < 4
    · have : ¬ 4 ≤ ((be 4 x.text.size ++ sl x.text).take m).length := by rw [List.length_take]; omega
      simp only [rBytes, rMany, rTake, if_neg this]
    · have e : (be 4 x.text.size ++ sl x.text).take m = be 4 x.text.size ++ (sl x.text).take (m - 4) := by rw [List.take_append, be_length, List.take_of_length_le (by rw [be_length]; omega)]
      have hle : 4 ≤ (be 4 x.text.size ++ (sl x.text).take (m - 4)).length := by rw [List.length_append, be_length]; omega
      have ht : (be 4 x.text.size ++ (sl x.text).take (m - 4)).take 4 = be 4 x.text.size := List.take_left' (be_length 4 _)
      have hd : (be 4 x.text.size ++ (sl x.text).take (m - 4)).drop 4 = (sl x.text).take (m - 4) := List.drop_left' (be_length 4 _)
      rw [e]
      simp only [rBytes, rMany, rTake, if_pos hle, ht, hd, num_be4 x.text.size (by omega)]
      rw [if_pos (by right; rw [List.length_take, sl_length, Nat.div_one]; omega)]
  by_cases k2 : x.kind = 2
  · rw [rThS_2 k2]; rw [thB_2 k2] at hm ⊢; rw [x.hash.2] at hm
    have : ¬ 32 ≤ (x.hash.1.take m).length := by rw [List.length_take]; omega
    simp only [rHash, rTake, if_neg this]
  by_cases k3 : x.kind = 3
  · rw [rThS_3 k3]; rw [thB_3 k3] at hm ⊢; rw [List.length_append, be_length, hb_length] at hm
    by_cases h4 : m < 4
    · have : ¬ 4 ≤ ((be 4 x.hs.length ++ hb x.hs).take m).length := by rw [List.length_take]; omega
      simp only [rHashes, rMany, rTake, if_neg this]
      rfl
    · have e : (be 4 x.hs.length ++ hb x.hs).take m = be 4 x.hs.length ++ (hb x.hs).take (m - 4) := by rw [List.take_append, be_length, List.take_of_length_le (by rw [be_length]; omega)]
      have hle : 4 ≤ (be 4 x.hs.length ++ (hb x.hs).take (m - 4)).length := by rw [List.length_append, be_length]; omega
      have ht : (be 4 x.hs.length ++ (hb x.hs).take (m - 4)).take 4 = be 4 x.hs.length := List.take_left' (be_length 4 _)
      have hd : (be 4 x.hs.length ++ (hb x.hs).take (m - 4)).drop 4 = (hb x.hs).take (m - 4) := List.drop_left' (be_length 4 _)
      rw [e]
      simp only [rHashes, rMany, rTake, if_pos hle, ht, hd, num_be4 x.hs.length (by omega)]
      rw [if_pos (by right; rw [List.length_take, hb_length]; omega)]
      rfl
  by_cases k4 : x.kind = 4
  · rw [rThS_4 k4]; rw [thB_4 k4] at hm ⊢
    have : m = 0 := by simpa using hm
    subst this
    rfl
  · rw [thB_5 k0 k1 k2 k3 k4] at hm; simp at hm

/-- The bytes of things. -/
def thsB (l : List Th) : List UInt8 := l.flatMap thB
theorem thsB_take_succ (l : List Th) (k : Nat) (hk : k < l.length) : thsB (l.take (k + 1)) = thsB (l.take k) ++ thB l[k] := by
  rw [List.take_succ_eq_append_getElem hk]; unfold thsB; rw [List.flatMap_append]; simp
theorem thsB_drop (l : List Th) (k : Nat) (hk : k < l.length) : thsB (l.drop k) = thB l[k] ++ thsB (l.drop (k + 1)) := by
  rw [List.drop_eq_getElem_cons hk]; rfl
theorem thB_len {x : Th} (h : ThS x) : (thB x).length ≤ 700 := by
  have h1 := h.tx
  have h2 := h.hl
  unfold thB
  split
  · rw [be_length]; omega
  · split
    · rw [List.length_append, be_length, sl_length]; omega
    · split
      · rw [x.hash.2]; omega
      · split
        · rw [List.length_append, be_length, hb_length]; omega
        · split <;> simp
theorem thsB_len : ∀ (l : List Th), (∀ x ∈ l, ThS x) → (thsB l).length ≤ l.length * 700
  | [], _ => by simp [thsB]
  | x :: l, h => by
    have h1 := thB_len (h x (by simp))
    have h2 := thsB_len l (fun y hy => h y (by simp [hy]))
    have e : thsB (x :: l) = thB x ++ thsB l := rfl
    rw [e, List.length_append, List.length_cons]
    omega
end Go.Proofs.Ytngdbblgnimogaa
