/-
  For any bytes, any list of kinds and any bound, WireReads returns true: any bytes are read as the document says; no condition.
-/
import Derived.Test.YtngdbblgnimogaaRead
import Derived.Test.YtngdbblgnimogaaOpen
import Derived.Test.YtngdbblgnimogaaQuiet
import Derived.Test.YtngdbblgnimogaaEq
namespace Go.Proofs.Ytngdbblgnimogaa.wireReads
open Go.ChangeShapes Go.WideShapes Go.ChangeAt Go.RowKit Go.Proofs.Ytngdbblgnimogaa

set_option maxRecDepth 20000 in
theorem walk_big (a : Option Addr) (c : Nat) (l : List UInt8) (a2 : Option Addr) (c2 : Nat) (kd : List UInt8) (most : Int) (w : World) (hl : 400 < l.length ∨ l.length ≤ 400 ∧ 40 < kd.length) (hl2 : l.length ≤ 9223372036854775807) (hl3 : kd.length ≤ 9223372036854775807) :
    Calls Try.prog 5 #[.slice a l.length c, .slice a2 kd.length c2, .int .i64 most] w fun e w' => e = .returned (.bool true) ∧ Kp [] w w' := by
  have hl' : decide ((l.length : Int) > 400) = true ∨ decide ((l.length : Int) > 400) = false ∧ decide ((kd.length : Int) > 40) = true := by
    rcases hl with h | ⟨h, h2⟩
    · left; exact decide_eq_true (by omega)
    · right; exact ⟨decide_eq_false (by omega), decide_eq_true (by omega)⟩
  clear hl
  rcases hl' with h | ⟨h, h2⟩
  all_goals
    go_enter Try.func5, Try.ntmps5
    go_wp2_with fail
    refine (awake_any _).mono ?_
    rintro e w1 ⟨rfl, k1⟩
    have K1 := Lib.hid k1
    clear k1
    go_wp2
    go_ret
    exact ⟨rfl, K1.out⟩

theorem rem6 (b : UInt8) (m : Nat) (h : b.toNat % 6 = m) : IntKind.u8.wrap (Int.tmod (b.toNat : Int) 6) = m := by
  have := b.toNat_lt
  subst h
  rw [Int.tmod_eq_emod_of_nonneg (by omega)]
  show ((b.toNat : Int) % 6) % 256 = _
  omega

/-- What stands behind a place, or nothing. -/
def Stt (l : List UInt8) (t : Nat) : St → Prop
  | none => True
  | some r => t ≤ l.length ∧ r = l.drop t

theorem rInt_none : rInt none = (0, none) := rfl
theorem rInt_short {l : List UInt8} {t : Nat} (h : l.length < t + 8) : rInt (some (l.drop t)) = (0, none) := by
  simp [rInt, rTake, show ¬ 8 ≤ l.length - t by omega]
theorem rInt_long {l : List UInt8} {t : Nat} (h : t + 8 ≤ l.length) : rInt (some (l.drop t)) = (wrap64 (num ((l.drop t).take 8)), some (l.drop (t + 8))) := by
  simp [rInt, rTake, show 8 ≤ l.length - t by omega, List.drop_drop]

theorem rCount_none {least most : Int} : rCount least most none = (0, none) := rfl
theorem rCount_short {l : List UInt8} {t : Nat} {least most : Int} (h : l.length < t + 8) : rCount least most (some (l.drop t)) = (0, none) := by
  unfold rCount; rw [rInt_short h]
theorem rCount_bad {s : St} {r : List UInt8} {n least most : Int} (h : rInt s = (n, some r)) (hb : n < least ∨ most < n) : rCount least most s = (0, none) := by
  unfold rCount; rw [h]; exact if_pos hb
theorem rCount_good {s : St} {r : List UInt8} {n least most : Int} (h : rInt s = (n, some r)) (h1 : ¬ n < least) (h2 : ¬ most < n) : rCount least most s = (n, some r) := by
  unfold rCount; rw [h]; exact if_neg (by omega)
theorem num4' (l : List UInt8) : num (l.take 4) < 4294967296 := by
  have h1 := num_lt (l.take 4)
  have h2 : 256 ^ (l.take 4).length ≤ 256 ^ 4 := Nat.pow_le_pow_right (by omega) (by simp; omega)
  have : (256 : Nat) ^ 4 = 4294967296 := by decide
  omega
theorem rBytes_none {most : Int} : rBytes most none = ([], none) := rfl
theorem rBytes_short {l : List UInt8} {t : Nat} {most : Int} (h : l.length < t + 4) : rBytes most (some (l.drop t)) = ([], none) := by
  simp [rBytes, rMany, rTake, show ¬ 4 ≤ l.length - t by omega]
theorem rBytes_bad {l : List UInt8} {t n : Nat} {most : Int} (h : t + 4 ≤ l.length) (hn : n = num ((l.drop t).take 4)) (hb : most < (n : Int) ∨ l.length < t + 4 + n) : rBytes most (some (l.drop t)) = ([], none) := by
  subst hn
  simp only [rBytes, rMany, rTake, List.length_drop, if_pos (show 4 ≤ l.length - t by omega)]
  rw [if_pos (by rw [Nat.div_one]; omega)]
theorem rBytes_good {l : List UInt8} {t n : Nat} {most : Int} (h : t + 4 ≤ l.length) (hn : n = num ((l.drop t).take 4)) (h1 : ¬ most < (n : Int)) (h2 : t + 4 + n ≤ l.length) : rBytes most (some (l.drop t)) = ((l.drop (t + 4)).take n, some (l.drop (t + 4 + n))) := by
  subst hn
  simp only [rBytes, rMany, rTake, List.length_drop, if_pos (show 4 ≤ l.length - t by omega)]
  rw [if_neg (by rw [Nat.div_one]; omega)]
  simp only [List.drop_drop]

theorem rHash_none : rHash none = (zeroH, none) := rfl
theorem rHash_short {l : List UInt8} {t : Nat} (h : l.length < t + 32) : rHash (some (l.drop t)) = (zeroH, none) := by
  simp [rHash, rTake, show ¬ 32 ≤ l.length - t by omega]
theorem rHash_long {l : List UInt8} {t : Nat} (h : t + 32 ≤ l.length) : rHash (some (l.drop t)) = (toH ((l.drop t).take 32), some (l.drop (t + 32))) := by
  simp [rHash, rTake, show 32 ≤ l.length - t by omega, List.drop_drop]
theorem rBool_none : rBool none = (false, none) := rfl
theorem rBool_short {l : List UInt8} {t : Nat} (h : l.length ≤ t) : rBool (some (l.drop t)) = (false, none) := by
  simp [rBool, rTake, show ¬ 1 ≤ l.length - t by omega]
theorem rBool_long {l : List UInt8} {t : Nat} {x : UInt8} (h : t < l.length) (hx : l[t] = x) : rBool (some (l.drop t)) = if 1 < x.toNat then (false, none) else (x.toNat == 1, some (l.drop (t + 1))) := by
  have h1 : (l.drop t).take 1 = [x] := by rw [List.drop_eq_getElem_cons h, hx]; rfl
  simp only [rBool, rTake, List.length_drop, if_pos (show 1 ≤ l.length - t by omega), h1, List.drop_drop]
  simp [num]

theorem isDone_yes {l r : List UInt8} {t : Nat} (h : Stt l t (some r)) (e : ((t : Int) == (l.length : Int)) = true) : isDone (some r) = true := by
  obtain ⟨_, rfl⟩ := h
  have : t = l.length := by have := eq_of_beq e; omega
  rw [this, List.drop_length]; rfl
theorem isDone_no {l r : List UInt8} {t : Nat} (h : Stt l t (some r)) (e : ((t : Int) == (l.length : Int)) = false) : isDone (some r) = false := by
  obtain ⟨h1, rfl⟩ := h
  have : ¬ t = l.length := fun hh => by rw [hh] at e; simp at e
  have h2 : 0 < (l.drop t).length := by rw [List.length_drop]; omega
  cases hx : l.drop t with
  | nil => rw [hx] at h2; simp at h2
  | cons x y => rfl

set_option maxRecDepth 20000 in
set_option maxHeartbeats 8000000 in
theorem walk_small (a : Option Addr) (c : Nat) (l : List UInt8) (a2 : Option Addr) (c2 : Nat) (kd : List UInt8) (most : Int) (w : World) (hr : Rd w a l.length c 1 (bcs l)) (hr2 : Rd w a2 kd.length c2 1 (bcs kd)) (hl : l.length ≤ 400) (hl2 : kd.length ≤ 40) :
    Calls Try.prog 5 #[.slice a l.length c, .slice a2 kd.length c2, .int .i64 most] w fun e w' => e = .returned (.bool true) ∧ Kp [] w w' := by
  have HLT := Lib.hid (fun h => hr.lt h)
  have HLT2 := Lib.hid (fun h => hr2.lt h)
  have HR := Lib.hid hr
  have HR2 := Lib.hid hr2
  clear hr hr2
  go_enter Try.func5, Try.ntmps5
  go_wp2_with fail
  refine (newIn_any a c l _ HR.out (by omega)).mono ?_
  rintro e w1 ⟨p, G, rfl, h4, hG, hG2, hpG, k1⟩
  have H4 := Lib.hid h4
  have HG := Lib.hid hG
  have HG2 := Lib.hid hG2
  have HP := Lib.hid hpG
  have K1 := Lib.hid k1
  have hpw : w.heap.size ≤ p := hG p (by simp)
  clear h4 hG hG2 hpG k1
  go_wp2
  go_loopw [8, 9, 33] (fun at' bad i wr => ∃ (k t : Nat) (s : St), k ≤ kd.length ∧ i = .int .i64 k ∧ at' = .int .i64 t ∧ t ≤ 400 + 32 * k ∧ bad = .bool s.isNone ∧ Stt l t s ∧ InAt wr p s G ∧ Kp [p] w1 wr) (fun _ _ i _ => kd.length - (intOf i).toNat)
  case atStart => exact ⟨0, 0, some l, by omega, rfl, rfl, by omega, rfl, ⟨by omega, by simp⟩, H4.out, Kp.refl _ _⟩
  case round =>
    obtain ⟨k, t, s, hk, rfl, rfl, ht, rfl, hs, hin, hkp⟩ := hrel
    have HIN := Lib.hid hin
    have HKP := Lib.hid hkp
    have HK := Lib.hid ((K1.out.trans hkp (by simp; omega)))
    clear hin hkp
    by_cases hlt : k < kd.length
    · have HRa := Lib.hid (HR.out.kept HK.out (fun x hx hh => by simp at hh))
      have hrk := HR2.out.kept HK.out (fun x hx hh => by simp at hh)
      obtain ⟨b2, o2, rfl, hb2, hc2⟩ := hrk.spot (by rw [bcs_length]; omega)
      have hcell : wr.cell? ⟨b2, o2 + k, none⟩ = some (bcell kd[k]) := hc2 k _ (by simp [bcs, hlt])
      unfold bcell at hcell
      obtain ⟨y, hy⟩ : ∃ y : UInt8, y = kd[k] := ⟨_, rfl⟩
      rw [← hy] at hcell
      clear hc2 hrk hy
      have hm6 : y.toNat % 6 = 0 ∨ y.toNat % 6 = 1 ∨ y.toNat % 6 = 2 ∨ y.toNat % 6 = 3 ∨ y.toNat % 6 = 4 ∨ y.toNat % 6 = 5 := by omega
      have hne : s = none ∨ ∃ r, s = some r := by cases s <;> simp
      have hne : s = none ∨ ∃ r, s = some r := by cases s <;> simp
      have hne : s = none ∨ ∃ r, s = some r := by cases s <;> simp
      have hne : s = none ∨ ∃ r, s = some r := by cases s <;> simp
      have hne : s = none ∨ ∃ r, s = some r := by cases s <;> simp
      have hne : s = none ∨ ∃ r, s = some r := by cases s <;> simp
      have hne : s = none ∨ ∃ r, s = some r := by cases s <;> simp
      have hne : s = none ∨ ∃ r, s = some r := by cases s <;> simp
      have hne : s = none ∨ ∃ r, s = some r := by cases s <;> simp
      have hne : s = none ∨ ∃ r, s = some r := by cases s <;> simp
      have hne : s = none ∨ ∃ r, s = some r := by cases s <;> simp
      have hne : s = none ∨ ∃ r, s = some r := by cases s <;> simp
      have hne : s = none ∨ ∃ r, s = some r := by cases s <;> simp
      have hne : s = none ∨ ∃ r, s = some r := by cases s <;> simp
      have hne : s = none ∨ ∃ r, s = some r := by cases s <;> simp
      have hne : s = none ∨ ∃ r, s = some r := by cases s <;> simp
      have hne : s = none ∨ ∃ r, s = some r := by cases s <;> simp
      have hne : s = none ∨ ∃ r, s = some r := by cases s <;> simp
      have hne : s = none ∨ ∃ r, s = some r := by cases s <;> simp
      have hne : s = none ∨ ∃ r, s = some r := by cases s <;> simp
      have hne : s = none ∨ ∃ r, s = some r := by cases s <;> simp
      have hne : s = none ∨ ∃ r, s = some r := by cases s <;> simp
      have hne : s = none ∨ ∃ r, s = some r := by cases s <;> simp
      have hne : s = none ∨ ∃ r, s = some r := by cases s <;> simp
      have hne : s = none ∨ ∃ r, s = some r := by cases s <;> simp
      rcases hm6 with hm | hm | hm | hm | hm | hm
      · as_aux_lemma =>
          have hrem : (y.toNat : Int) % 6 = 0 := by omega
          clear hm
          obtain ⟨n, hn⟩ : ∃ n, n = wrap64 (num ((l.drop t).take 8)) := ⟨_, rfl⟩
          have HN := Lib.hid hn
          clear hn
          rcases hne with rfl | ⟨r, rfl⟩
          · by_cases hin : t + 8 ≤ l.length
            all_goals
              go_wp2_with fail
              first
                | (refine (read_no _ _ l t 8 _ (by omega) (by omega) (by decide)).mono ?_; rintro e w3 ⟨rfl, rfl⟩)
                | (refine (read_yes _ _ l t 8 _ HRa.out (by omega) (by decide) (by omega)).mono ?_; rw [← HN.out]; rintro e w3 ⟨rfl, rfl⟩)

              go_wp2_with fail
              refine (int_any p none G _ HIN.out).mono ?_
              rw [rInt_none]
              rintro e w5 ⟨rfl, h5, k5⟩
              have H5 := Lib.hid h5
              have K5 := Lib.hid k5
              clear h5 k5

              go_wp2_with fail
              refine (bad_any p _ G _ H5.out).mono ?_
              rintro e w6 ⟨rfl, rfl⟩
              go_wp2
              go_roundw
              case rel => exact ⟨k + 1, t + 8, none, by omega, by go_num, by go_num, by omega, rfl, trivial, H5.out, HKP.out.trans K5.out (by simp)⟩
              case measure => simp [intOf]; omega
          · obtain ⟨htl, rfl⟩ := hs
            by_cases hin : t + 8 ≤ l.length
            · have HI := Lib.hid (rInt_long hin)
              rw [← HN.out] at HI
              go_wp2_with fail
              first
                | (refine (read_no _ _ l t 8 _ (by omega) (by omega) (by decide)).mono ?_; rintro e w3 ⟨rfl, rfl⟩)
                | (refine (read_yes _ _ l t 8 _ HRa.out (by omega) (by decide) (by omega)).mono ?_; rw [← HN.out]; rintro e w3 ⟨rfl, rfl⟩)

              go_wp2_with fail
              refine (int_any p _ G _ HIN.out).mono ?_
              rw [HI.out]
              rintro e w5 ⟨rfl, h5, k5⟩
              have H5 := Lib.hid h5
              have K5 := Lib.hid k5
              clear h5 k5

              go_wp2_with fail
              refine (bad_any p _ G _ H5.out).mono ?_
              rintro e w6 ⟨rfl, rfl⟩
              go_wp2
              go_roundw
              case rel => exact ⟨k + 1, t + 8, some (l.drop (t + 8)), by omega, by go_num, by go_num, by omega, rfl, ⟨hin, rfl⟩, H5.out, HKP.out.trans K5.out (by simp)⟩
              case measure => simp [intOf]; omega
            · have HI := Lib.hid (rInt_short (l := l) (t := t) (by omega))
              go_wp2_with fail
              first
                | (refine (read_no _ _ l t 8 _ (by omega) (by omega) (by decide)).mono ?_; rintro e w3 ⟨rfl, rfl⟩)
                | (refine (read_yes _ _ l t 8 _ HRa.out (by omega) (by decide) (by omega)).mono ?_; rw [← HN.out]; rintro e w3 ⟨rfl, rfl⟩)

              go_wp2_with fail
              refine (int_any p _ G _ HIN.out).mono ?_
              rw [HI.out]
              rintro e w5 ⟨rfl, h5, k5⟩
              have H5 := Lib.hid h5
              have K5 := Lib.hid k5
              clear h5 k5

              go_wp2_with fail
              refine (bad_any p _ G _ H5.out).mono ?_
              rintro e w6 ⟨rfl, rfl⟩
              go_wp2
              go_roundw
              case rel => exact ⟨k + 1, t + 8, none, by omega, by go_num, by go_num, by omega, rfl, trivial, H5.out, HKP.out.trans K5.out (by simp)⟩
              case measure => simp [intOf]; omega
      · as_aux_lemma =>
          have hrem : (y.toNat : Int) % 6 = 1 := by omega
          clear hm
          obtain ⟨n, hn⟩ : ∃ n, n = wrap64 (num ((l.drop t).take 8)) := ⟨_, rfl⟩
          have HN := Lib.hid hn
          clear hn
          rcases hne with rfl | ⟨r, rfl⟩
          · by_cases hin : t + 8 ≤ l.length
            all_goals
              go_wp2_with fail
              first
                | (refine (read_no _ _ l t 8 _ (by omega) (by omega) (by decide)).mono ?_; rintro e w3 ⟨rfl, rfl⟩)
                | (refine (read_yes _ _ l t 8 _ HRa.out (by omega) (by decide) (by omega)).mono ?_; rw [← HN.out]; rintro e w3 ⟨rfl, rfl⟩)

              go_wp2_with fail
              refine (count_any p (-3) most none G _ HIN.out).mono ?_
              rw [rCount_none]
              rintro e w5 ⟨rfl, h5, k5⟩
              have H5 := Lib.hid h5
              have K5 := Lib.hid k5
              clear h5 k5

              go_wp2_with fail
              refine (bad_any p _ G _ H5.out).mono ?_
              rintro e w6 ⟨rfl, rfl⟩
              go_wp2
              go_roundw
              case rel => exact ⟨k + 1, t + 8, none, by omega, by go_num, by go_num, by omega, rfl, trivial, H5.out, HKP.out.trans K5.out (by simp)⟩
              case measure => simp [intOf]; omega
          · obtain ⟨htl, rfl⟩ := hs
            by_cases hin : t + 8 ≤ l.length
            · have HI := Lib.hid (rInt_long hin)
              rw [← HN.out] at HI
              have hd1 : decide (n < -3) = true ∨ decide (n < -3) = false ∧ (decide (most < n) = true ∨ decide (most < n) = false) := by
                simp only [decide_eq_true_eq, decide_eq_false_iff_not]; omega
              rcases hd1 with hd1 | ⟨hd1, hd2 | hd2⟩
              · have HC := Lib.hid (rCount_bad HI.out (least := -3) (most := most) (.inl (of_decide_eq_true hd1)))
                go_wp2_with fail
                first
                  | (refine (read_no _ _ l t 8 _ (by omega) (by omega) (by decide)).mono ?_; rintro e w3 ⟨rfl, rfl⟩)
                  | (refine (read_yes _ _ l t 8 _ HRa.out (by omega) (by decide) (by omega)).mono ?_; rw [← HN.out]; rintro e w3 ⟨rfl, rfl⟩)

                go_wp2_with fail
                refine (count_any p (-3) most _ G _ HIN.out).mono ?_
                rw [HC.out]
                rintro e w5 ⟨rfl, h5, k5⟩
                have H5 := Lib.hid h5
                have K5 := Lib.hid k5
                clear h5 k5

                go_wp2_with fail
                refine (bad_any p _ G _ H5.out).mono ?_
                rintro e w6 ⟨rfl, rfl⟩
                go_wp2
                go_roundw
                case rel => exact ⟨k + 1, t + 8, none, by omega, by go_num, by go_num, by omega, rfl, trivial, H5.out, HKP.out.trans K5.out (by simp)⟩
                case measure => simp [intOf]; omega
              · have HC := Lib.hid (rCount_bad HI.out (least := -3) (most := most) (.inr (of_decide_eq_true hd2)))
                go_wp2_with fail
                first
                  | (refine (read_no _ _ l t 8 _ (by omega) (by omega) (by decide)).mono ?_; rintro e w3 ⟨rfl, rfl⟩)
                  | (refine (read_yes _ _ l t 8 _ HRa.out (by omega) (by decide) (by omega)).mono ?_; rw [← HN.out]; rintro e w3 ⟨rfl, rfl⟩)

                go_wp2_with fail
                refine (count_any p (-3) most _ G _ HIN.out).mono ?_
                rw [HC.out]
                rintro e w5 ⟨rfl, h5, k5⟩
                have H5 := Lib.hid h5
                have K5 := Lib.hid k5
                clear h5 k5

                go_wp2_with fail
                refine (bad_any p _ G _ H5.out).mono ?_
                rintro e w6 ⟨rfl, rfl⟩
                go_wp2
                go_roundw
                case rel => exact ⟨k + 1, t + 8, none, by omega, by go_num, by go_num, by omega, rfl, trivial, H5.out, HKP.out.trans K5.out (by simp)⟩
                case measure => simp [intOf]; omega
              · have HC := Lib.hid (rCount_good HI.out (least := -3) (most := most) (of_decide_eq_false hd1) (of_decide_eq_false hd2))
                go_wp2_with fail
                first
                  | (refine (read_no _ _ l t 8 _ (by omega) (by omega) (by decide)).mono ?_; rintro e w3 ⟨rfl, rfl⟩)
                  | (refine (read_yes _ _ l t 8 _ HRa.out (by omega) (by decide) (by omega)).mono ?_; rw [← HN.out]; rintro e w3 ⟨rfl, rfl⟩)

                go_wp2_with fail
                refine (count_any p (-3) most _ G _ HIN.out).mono ?_
                rw [HC.out]
                rintro e w5 ⟨rfl, h5, k5⟩
                have H5 := Lib.hid h5
                have K5 := Lib.hid k5
                clear h5 k5

                go_wp2_with fail
                refine (bad_any p _ G _ H5.out).mono ?_
                rintro e w6 ⟨rfl, rfl⟩
                go_wp2
                go_roundw
                case rel => exact ⟨k + 1, t + 8, some (l.drop (t + 8)), by omega, by go_num, by go_num, by omega, rfl, ⟨hin, rfl⟩, H5.out, HKP.out.trans K5.out (by simp)⟩
                case measure => simp [intOf]; omega
            · have HI := Lib.hid (rCount_short (least := -3) (l := l) (t := t) (most := most) (by omega))
              go_wp2_with fail
              first
                | (refine (read_no _ _ l t 8 _ (by omega) (by omega) (by decide)).mono ?_; rintro e w3 ⟨rfl, rfl⟩)
                | (refine (read_yes _ _ l t 8 _ HRa.out (by omega) (by decide) (by omega)).mono ?_; rw [← HN.out]; rintro e w3 ⟨rfl, rfl⟩)

              go_wp2_with fail
              refine (count_any p (-3) most _ G _ HIN.out).mono ?_
              rw [HI.out]
              rintro e w5 ⟨rfl, h5, k5⟩
              have H5 := Lib.hid h5
              have K5 := Lib.hid k5
              clear h5 k5

              go_wp2_with fail
              refine (bad_any p _ G _ H5.out).mono ?_
              rintro e w6 ⟨rfl, rfl⟩
              go_wp2
              go_roundw
              case rel => exact ⟨k + 1, t + 8, none, by omega, by go_num, by go_num, by omega, rfl, trivial, H5.out, HKP.out.trans K5.out (by simp)⟩
              case measure => simp [intOf]; omega
      · as_aux_lemma =>
          have hrem : (y.toNat : Int) % 6 = 2 := by omega
          clear hm
          obtain ⟨n, hn⟩ : ∃ n, n = num ((l.drop t).take 4) := ⟨_, rfl⟩
          have hnlt : n < 4294967296 := by rw [hn]; exact num4' _
          have hn' : (n : Int) = wrap64 (num ((l.drop t).take 4)) := by rw [← hn]; exact (IntWalk.wrap64_in _ ⟨by omega, by omega⟩).symm
          have HN := Lib.hid hn'
          have HN2 := Lib.hid hn
          clear hn hn'
          rcases hne with rfl | ⟨r, rfl⟩
          · by_cases hin : t + 4 ≤ l.length
            all_goals
              go_wp2_with fail
              first
                | (refine (read_no _ _ l t 4 _ (by omega) (by omega) (by decide)).mono ?_; rintro e w3 ⟨rfl, rfl⟩)
                | (refine (read_yes _ _ l t 4 _ HRa.out (by omega) (by decide) (by omega)).mono ?_; rw [← HN.out]; rintro e w3 ⟨rfl, rfl⟩)

              go_wp2_with fail
              refine (bytes_any p most none G _ HIN.out).mono ?_
              rw [rBytes_none]
              rintro e w5 ⟨a5, c5, rfl, hr5, -, h5, k5⟩
              have hcv0 : (convert 22 9 (.slice a5 0 c5)).run Try.prog w5 = .ok (.string ⟨([] : List UInt8).toArray⟩) w5 := conv_string Try.underlying22 Try.underlying5 Try.underlying9 hr5
              have H5 := Lib.hid h5
              have K5 := Lib.hid k5
              clear h5 k5 hr5

              go_wp2_with fail
              refine (bad_any p _ G _ H5.out).mono ?_
              rintro e w6 ⟨rfl, rfl⟩
              go_wp2
              go_roundw
              case rel => exact ⟨k + 1, t, none, by omega, by go_num, by go_num, by omega, rfl, trivial, H5.out, HKP.out.trans K5.out (by simp)⟩
              case measure => simp [intOf]; omega
          · obtain ⟨htl, rfl⟩ := hs
            by_cases hin : t + 4 ≤ l.length
            · have hd1 : decide (most < (n : Int)) = true ∨ decide (most < (n : Int)) = false ∧ (decide ((l.length : Int) - t - 4 < n) = true ∨ decide ((l.length : Int) - t - 4 < n) = false) := by
                simp only [decide_eq_true_eq, decide_eq_false_iff_not]; omega
              rcases hd1 with hd1 | ⟨hd1, hd2 | hd2⟩
              · have HC := Lib.hid (rBytes_bad (most := most) hin HN2.out (.inl (of_decide_eq_true hd1)))
                go_wp2_with fail
                first
                  | (refine (read_no _ _ l t 4 _ (by omega) (by omega) (by decide)).mono ?_; rintro e w3 ⟨rfl, rfl⟩)
                  | (refine (read_yes _ _ l t 4 _ HRa.out (by omega) (by decide) (by omega)).mono ?_; rw [← HN.out]; rintro e w3 ⟨rfl, rfl⟩)

                go_wp2_with fail
                refine (bytes_any p most _ G _ HIN.out).mono ?_
                rw [HC.out]
                rintro e w5 ⟨a5, c5, rfl, hr5, -, h5, k5⟩
                have hcv0 : (convert 22 9 (.slice a5 0 c5)).run Try.prog w5 = .ok (.string ⟨([] : List UInt8).toArray⟩) w5 := conv_string Try.underlying22 Try.underlying5 Try.underlying9 hr5
                have H5 := Lib.hid h5
                have K5 := Lib.hid k5
                clear h5 k5 hr5

                go_wp2_with fail
                refine (bad_any p _ G _ H5.out).mono ?_
                rintro e w6 ⟨rfl, rfl⟩
                go_wp2
                go_roundw
                case rel => exact ⟨k + 1, t, none, by omega, by go_num, by go_num, by omega, rfl, trivial, H5.out, HKP.out.trans K5.out (by simp)⟩
                case measure => simp [intOf]; omega
              · have HC := Lib.hid (rBytes_bad (most := most) hin HN2.out (.inr (by have := of_decide_eq_true hd2; omega)))
                go_wp2_with fail
                first
                  | (refine (read_no _ _ l t 4 _ (by omega) (by omega) (by decide)).mono ?_; rintro e w3 ⟨rfl, rfl⟩)
                  | (refine (read_yes _ _ l t 4 _ HRa.out (by omega) (by decide) (by omega)).mono ?_; rw [← HN.out]; rintro e w3 ⟨rfl, rfl⟩)

                go_wp2_with fail
                refine (bytes_any p most _ G _ HIN.out).mono ?_
                rw [HC.out]
                rintro e w5 ⟨a5, c5, rfl, hr5, -, h5, k5⟩
                have hcv0 : (convert 22 9 (.slice a5 0 c5)).run Try.prog w5 = .ok (.string ⟨([] : List UInt8).toArray⟩) w5 := conv_string Try.underlying22 Try.underlying5 Try.underlying9 hr5
                have H5 := Lib.hid h5
                have K5 := Lib.hid k5
                clear h5 k5 hr5

                go_wp2_with fail
                refine (bad_any p _ G _ H5.out).mono ?_
                rintro e w6 ⟨rfl, rfl⟩
                go_wp2
                go_roundw
                case rel => exact ⟨k + 1, t, none, by omega, by go_num, by go_num, by omega, rfl, trivial, H5.out, HKP.out.trans K5.out (by simp)⟩
                case measure => simp [intOf]; omega
              · have hd3 : t + 4 + n ≤ l.length := by have := of_decide_eq_false hd2; omega
                have hc0 := rBytes_good (most := most) hin HN2.out (of_decide_eq_false hd1) hd3
                have hll : ((l.drop (t + 4)).take n).length = n := by simp; omega
                obtain ⟨bs, hbs⟩ : ∃ bs, bs = (l.drop (t + 4)).take n := ⟨_, rfl⟩
                have hcut := HRa.out.cut (t + 4) (t + 4 + n) c (by omega) (by have := HRa.out.le; omega) (Nat.le_refl _) (by omega)
                have e : (bcs l |>.take (t + 4 + n)).drop (t + 4) = bcs ((l.drop (t + 4)).take n) := by
                  rw [bcs_take, bcs_drop, List.drop_take, Nat.add_sub_cancel_left]
                rw [Nat.mul_one, Nat.mul_one, e, show t + 4 + n - (t + 4) = n by omega, ← hbs] at hcut
                rw [← hbs] at hc0 hll
                have HC1 := Lib.hid (congrArg Prod.fst hc0)
                have HC2 := Lib.hid (congrArg Prod.snd hc0)
                have HLL := Lib.hid hll
                have hcle : l.length ≤ c := HRa.out.le
                have HCM := Lib.hid HRa.out.max
                obtain ⟨b1, o1, rfl, _, _⟩ := HRa.out.spot (by rw [bcs_length]; omega)
                by_cases hcc : c = t + 4
                all_goals
                  first | (subst hcc; rw [if_pos rfl] at hcut) | rw [if_neg hcc] at hcut
                  have hcv1 := conv_string (P := Try.prog) Try.underlying22 Try.underlying5 Try.underlying9 (l := bs) (by rw [HLL.out]; exact hcut)
                  rw [HLL.out] at hcv1
                  try simp only [Option.map_some, Addr.add_mid] at hcv1
                  try simp only [Nat.sub_self] at hcv1
                  clear hcut hc0 hll hbs e
                  go_wp2_with fail
                  first
                    | (refine (read_no _ _ l t 4 _ (by omega) (by omega) (by decide)).mono ?_; rintro e w3 ⟨rfl, rfl⟩)
                    | (refine (read_yes _ _ l t 4 _ HRa.out (by omega) (by decide) (by omega)).mono ?_; rw [← HN.out]; rintro e w3 ⟨rfl, rfl⟩)

                  go_wp2_with fail
                  refine (bytes_any p most _ G _ HIN.out).mono ?_
                  rw [HC1.out, HC2.out, HLL.out]
                  rintro e w5 ⟨a5, c5, rfl, hr5, -, h5, k5⟩
                  have hcv0 : (convert 22 9 (.slice a5 n c5)).run Try.prog w5 = .ok (.string ⟨(bs : List UInt8).toArray⟩) w5 := by have := conv_string (P := Try.prog) Try.underlying22 Try.underlying5 Try.underlying9 (a := a5) (c := c5) (l := bs) (by rw [HLL.out]; exact hr5); rwa [HLL.out] at this
                  have H5 := Lib.hid h5
                  have K5 := Lib.hid k5
                  clear h5 k5 hr5

                  go_wp2_with fail
                  refine (bad_any p _ G _ H5.out).mono ?_
                  rintro e w6 ⟨rfl, rfl⟩
                  go_wp2
                  go_roundw
                  case rel => exact ⟨k + 1, t + 4 + n, some (l.drop (t + 4 + n)), by omega, by go_num, by go_num, by omega, rfl, ⟨hd3, rfl⟩, H5.out, HKP.out.trans K5.out (by simp)⟩
                  case measure => simp [intOf]; omega
            · have HI := Lib.hid (rBytes_short (l := l) (t := t) (most := most) (by omega))
              go_wp2_with fail
              first
                | (refine (read_no _ _ l t 4 _ (by omega) (by omega) (by decide)).mono ?_; rintro e w3 ⟨rfl, rfl⟩)
                | (refine (read_yes _ _ l t 4 _ HRa.out (by omega) (by decide) (by omega)).mono ?_; rw [← HN.out]; rintro e w3 ⟨rfl, rfl⟩)

              go_wp2_with fail
              refine (bytes_any p most _ G _ HIN.out).mono ?_
              rw [HI.out]
              rintro e w5 ⟨a5, c5, rfl, hr5, -, h5, k5⟩
              have hcv0 : (convert 22 9 (.slice a5 0 c5)).run Try.prog w5 = .ok (.string ⟨([] : List UInt8).toArray⟩) w5 := conv_string Try.underlying22 Try.underlying5 Try.underlying9 hr5
              have H5 := Lib.hid h5
              have K5 := Lib.hid k5
              clear h5 k5 hr5

              go_wp2_with fail
              refine (bad_any p _ G _ H5.out).mono ?_
              rintro e w6 ⟨rfl, rfl⟩
              go_wp2
              go_roundw
              case rel => exact ⟨k + 1, t, none, by omega, by go_num, by go_num, by omega, rfl, trivial, H5.out, HKP.out.trans K5.out (by simp)⟩
              case measure => simp [intOf]; omega
      · as_aux_lemma =>
          have hrem : (y.toNat : Int) % 6 = 3 := by omega
          clear hm
          obtain ⟨n, hn⟩ : ∃ n, n = num ((l.drop t).take 4) := ⟨_, rfl⟩
          have hnlt : n < 4294967296 := by rw [hn]; exact num4' _
          have hn' : (n : Int) = wrap64 (num ((l.drop t).take 4)) := by rw [← hn]; exact (IntWalk.wrap64_in _ ⟨by omega, by omega⟩).symm
          have HN := Lib.hid hn'
          have HN2 := Lib.hid hn
          clear hn hn'
          rcases hne with rfl | ⟨r, rfl⟩
          · by_cases hin : t + 4 ≤ l.length
            all_goals
              go_wp2_with fail
              first
                | (refine (read_no _ _ l t 4 _ (by omega) (by omega) (by decide)).mono ?_; rintro e w3 ⟨rfl, rfl⟩)
                | (refine (read_yes _ _ l t 4 _ HRa.out (by omega) (by decide) (by omega)).mono ?_; rw [← HN.out]; rintro e w3 ⟨rfl, rfl⟩)

              go_wp2_with fail
              refine (text_any p most none G _ HIN.out).mono ?_
              rw [rBytes_none]
              rintro e w5 ⟨rfl, h5, k5⟩
              have H5 := Lib.hid h5
              have K5 := Lib.hid k5
              clear h5 k5

              go_wp2_with fail
              refine (bad_any p _ G _ H5.out).mono ?_
              rintro e w6 ⟨rfl, rfl⟩
              go_wp2
              go_roundw
              case rel => exact ⟨k + 1, t, none, by omega, by go_num, by go_num, by omega, rfl, trivial, H5.out, HKP.out.trans K5.out (by simp)⟩
              case measure => simp [intOf]; omega
          · obtain ⟨htl, rfl⟩ := hs
            by_cases hin : t + 4 ≤ l.length
            · have hd1 : decide (most < (n : Int)) = true ∨ decide (most < (n : Int)) = false ∧ (decide ((l.length : Int) - t - 4 < n) = true ∨ decide ((l.length : Int) - t - 4 < n) = false) := by
                simp only [decide_eq_true_eq, decide_eq_false_iff_not]; omega
              rcases hd1 with hd1 | ⟨hd1, hd2 | hd2⟩
              · have HC := Lib.hid (rBytes_bad (most := most) hin HN2.out (.inl (of_decide_eq_true hd1)))
                go_wp2_with fail
                first
                  | (refine (read_no _ _ l t 4 _ (by omega) (by omega) (by decide)).mono ?_; rintro e w3 ⟨rfl, rfl⟩)
                  | (refine (read_yes _ _ l t 4 _ HRa.out (by omega) (by decide) (by omega)).mono ?_; rw [← HN.out]; rintro e w3 ⟨rfl, rfl⟩)

                go_wp2_with fail
                refine (text_any p most _ G _ HIN.out).mono ?_
                rw [HC.out]
                rintro e w5 ⟨rfl, h5, k5⟩
                have H5 := Lib.hid h5
                have K5 := Lib.hid k5
                clear h5 k5

                go_wp2_with fail
                refine (bad_any p _ G _ H5.out).mono ?_
                rintro e w6 ⟨rfl, rfl⟩
                go_wp2
                go_roundw
                case rel => exact ⟨k + 1, t, none, by omega, by go_num, by go_num, by omega, rfl, trivial, H5.out, HKP.out.trans K5.out (by simp)⟩
                case measure => simp [intOf]; omega
              · have HC := Lib.hid (rBytes_bad (most := most) hin HN2.out (.inr (by have := of_decide_eq_true hd2; omega)))
                go_wp2_with fail
                first
                  | (refine (read_no _ _ l t 4 _ (by omega) (by omega) (by decide)).mono ?_; rintro e w3 ⟨rfl, rfl⟩)
                  | (refine (read_yes _ _ l t 4 _ HRa.out (by omega) (by decide) (by omega)).mono ?_; rw [← HN.out]; rintro e w3 ⟨rfl, rfl⟩)

                go_wp2_with fail
                refine (text_any p most _ G _ HIN.out).mono ?_
                rw [HC.out]
                rintro e w5 ⟨rfl, h5, k5⟩
                have H5 := Lib.hid h5
                have K5 := Lib.hid k5
                clear h5 k5

                go_wp2_with fail
                refine (bad_any p _ G _ H5.out).mono ?_
                rintro e w6 ⟨rfl, rfl⟩
                go_wp2
                go_roundw
                case rel => exact ⟨k + 1, t, none, by omega, by go_num, by go_num, by omega, rfl, trivial, H5.out, HKP.out.trans K5.out (by simp)⟩
                case measure => simp [intOf]; omega
              · have hd3 : t + 4 + n ≤ l.length := by have := of_decide_eq_false hd2; omega
                have hc0 := rBytes_good (most := most) hin HN2.out (of_decide_eq_false hd1) hd3
                have hll : ((l.drop (t + 4)).take n).length = n := by simp; omega
                obtain ⟨bs, hbs⟩ : ∃ bs, bs = (l.drop (t + 4)).take n := ⟨_, rfl⟩
                have hcut := HRa.out.cut (t + 4) (t + 4 + n) c (by omega) (by have := HRa.out.le; omega) (Nat.le_refl _) (by omega)
                have e : (bcs l |>.take (t + 4 + n)).drop (t + 4) = bcs ((l.drop (t + 4)).take n) := by
                  rw [bcs_take, bcs_drop, List.drop_take, Nat.add_sub_cancel_left]
                rw [Nat.mul_one, Nat.mul_one, e, show t + 4 + n - (t + 4) = n by omega, ← hbs] at hcut
                rw [← hbs] at hc0 hll
                have HC1 := Lib.hid (congrArg Prod.fst hc0)
                have HC2 := Lib.hid (congrArg Prod.snd hc0)
                have HLL := Lib.hid hll
                have hcle : l.length ≤ c := HRa.out.le
                have HCM := Lib.hid HRa.out.max
                obtain ⟨b1, o1, rfl, _, _⟩ := HRa.out.spot (by rw [bcs_length]; omega)
                by_cases hcc : c = t + 4
                all_goals
                  first | (subst hcc; rw [if_pos rfl] at hcut) | rw [if_neg hcc] at hcut
                  have hcv1 := conv_string (P := Try.prog) Try.underlying22 Try.underlying5 Try.underlying9 (l := bs) (by rw [HLL.out]; exact hcut)
                  rw [HLL.out] at hcv1
                  try simp only [Option.map_some, Addr.add_mid] at hcv1
                  try simp only [Nat.sub_self] at hcv1
                  clear hcut hc0 hll hbs e
                  go_wp2_with fail
                  first
                    | (refine (read_no _ _ l t 4 _ (by omega) (by omega) (by decide)).mono ?_; rintro e w3 ⟨rfl, rfl⟩)
                    | (refine (read_yes _ _ l t 4 _ HRa.out (by omega) (by decide) (by omega)).mono ?_; rw [← HN.out]; rintro e w3 ⟨rfl, rfl⟩)

                  go_wp2_with fail
                  refine (text_any p most _ G _ HIN.out).mono ?_
                  rw [HC1.out, HC2.out]
                  rintro e w5 ⟨rfl, h5, k5⟩
                  have H5 := Lib.hid h5
                  have K5 := Lib.hid k5
                  clear h5 k5

                  go_wp2_with fail
                  refine (bad_any p _ G _ H5.out).mono ?_
                  rintro e w6 ⟨rfl, rfl⟩
                  go_wp2
                  go_roundw
                  case rel => exact ⟨k + 1, t + 4 + n, some (l.drop (t + 4 + n)), by omega, by go_num, by go_num, by omega, rfl, ⟨hd3, rfl⟩, H5.out, HKP.out.trans K5.out (by simp)⟩
                  case measure => simp [intOf]; omega
            · have HI := Lib.hid (rBytes_short (l := l) (t := t) (most := most) (by omega))
              go_wp2_with fail
              first
                | (refine (read_no _ _ l t 4 _ (by omega) (by omega) (by decide)).mono ?_; rintro e w3 ⟨rfl, rfl⟩)
                | (refine (read_yes _ _ l t 4 _ HRa.out (by omega) (by decide) (by omega)).mono ?_; rw [← HN.out]; rintro e w3 ⟨rfl, rfl⟩)

              go_wp2_with fail
              refine (text_any p most _ G _ HIN.out).mono ?_
              rw [HI.out]
              rintro e w5 ⟨rfl, h5, k5⟩
              have H5 := Lib.hid h5
              have K5 := Lib.hid k5
              clear h5 k5

              go_wp2_with fail
              refine (bad_any p _ G _ H5.out).mono ?_
              rintro e w6 ⟨rfl, rfl⟩
              go_wp2
              go_roundw
              case rel => exact ⟨k + 1, t, none, by omega, by go_num, by go_num, by omega, rfl, trivial, H5.out, HKP.out.trans K5.out (by simp)⟩
              case measure => simp [intOf]; omega
      · as_aux_lemma =>
          have hrem : (y.toNat : Int) % 6 = 4 := by omega
          clear hm
          rcases hne with rfl | ⟨r, rfl⟩
          · have hpz : p < wr.heap.size := HIN.out.lt
            go_wp2_with (refine wpList_set Try.thash rfl rfl (heap_alloc_new wr _) rfl (hvA_size zeroH) (hvA_one zeroH) rfl (congrArg Value.agg zeroH_lit) ?_; intro w4 hz k4 s4)
            have kz : Kp [] wr w4 := ((Kp.refl [] wr).alloc _).trans k4 (by simp)
            have KZ := Lib.hid (kz.mono (G := [p]) (by simp)).drew
            have HINz := Lib.hid (HIN.out.kept kz.drew (by simp) (by simp))
            have HGz := Lib.hid (fun x (hx : x ∈ G) => Nat.lt_of_lt_of_le (HG2.out x (by simp [hx])) (Nat.le_trans HKP.out.size KZ.out.size))
            clear kz k4 s4
            have hrz := World.rangeAt_of_block hz.drewB 0 32
            rw [show ((hvA zeroH).extract 0 (0 + 32)).toList = hcs zeroH by rw [show (0 + 32) = (hvA zeroH).size by rw [hvA_size]]; simp [hvA]] at hrz
            have hty : Try.prog.underlying 39 = some (.array 32 5) := Try.underlying39
            have hln : (hcs zeroH).length = 32 := hcs_length _
            have hsi : (Try.prog.info? 39).map (·.size) = some (hcs zeroH).length := by rw [hln]; exact Try.thash.s
            have hone : ∀ u ∈ hcs zeroH, u.oneCell' = true := fun u hu => hvA_one zeroH u (by simpa [hvA] using hu)
            have hgt : Try.prog.eqGuardType Try.prog.depth 39 = false := Try.eqGuardType39
            have hne : ∀ w, (Op.equalIn 10000 39 (.agg (hvA zeroH)) (.agg (hcs zeroH).toArray)).run Try.prog w = .ok true w := fun w => (Try.equalHash w zeroH zeroH).trans (by rw [decide_eq_true rfl])
            have HZ := Lib.hid hz
            clear hz
            go_region_held3 (fun w' => w'.rangeAt wr.heap.size 0 (hcs zeroH)) (first | exact hr5 | exact hrz) (first | (refine (hash_any p _ G _ HINz.out (HGz.out)).mono ?_; rw [rHash_none]; rintro e w5 ⟨rfl, h5, k5⟩; have hr5 := hrz.keptK k5 (by simp; omega)))
            all_goals
              have H5 := Lib.hid h5
              have K5 := Lib.hid (KZ.out.trans k5 (by simp))
              clear h5 k5 hrz hr5 hty hln hsi hone hgt hne
              go_wp2_with fail
              refine (bad_any p _ G _ H5.out).mono ?_
              rintro e w6 ⟨rfl, rfl⟩
              go_wp2
              go_roundw
              case rel => exact ⟨k + 1, t + 32, none, by omega, by go_num, by go_num, by omega, rfl, trivial, H5.out, HKP.out.trans K5.out (by simp)⟩
              case measure => simp [intOf]; omega
          · obtain ⟨htl, rfl⟩ := hs
            have hd1 : decide ((l.length : Int) < t + 32) = true ∨ decide ((l.length : Int) < t + 32) = false := by cases decide ((l.length : Int) < t + 32) <;> simp
            rcases hd1 with hd1 | hd1
            · have HI := Lib.hid (rHash_short (l := l) (t := t) (by have := of_decide_eq_true hd1; omega))
              have hpz : p < wr.heap.size := HIN.out.lt
              go_wp2_with (refine wpList_set Try.thash rfl rfl (heap_alloc_new wr _) rfl (hvA_size zeroH) (hvA_one zeroH) rfl (congrArg Value.agg zeroH_lit) ?_; intro w4 hz k4 s4)
              have kz : Kp [] wr w4 := ((Kp.refl [] wr).alloc _).trans k4 (by simp)
              have KZ := Lib.hid (kz.mono (G := [p]) (by simp)).drew
              have HINz := Lib.hid (HIN.out.kept kz.drew (by simp) (by simp))
              have HGz := Lib.hid (fun x (hx : x ∈ G) => Nat.lt_of_lt_of_le (HG2.out x (by simp [hx])) (Nat.le_trans HKP.out.size KZ.out.size))
              clear kz k4 s4
              have hrz := World.rangeAt_of_block hz.drewB 0 32
              rw [show ((hvA zeroH).extract 0 (0 + 32)).toList = hcs zeroH by rw [show (0 + 32) = (hvA zeroH).size by rw [hvA_size]]; simp [hvA]] at hrz
              have hty : Try.prog.underlying 39 = some (.array 32 5) := Try.underlying39
              have hln : (hcs zeroH).length = 32 := hcs_length _
              have hsi : (Try.prog.info? 39).map (·.size) = some (hcs zeroH).length := by rw [hln]; exact Try.thash.s
              have hone : ∀ u ∈ hcs zeroH, u.oneCell' = true := fun u hu => hvA_one zeroH u (by simpa [hvA] using hu)
              have hgt : Try.prog.eqGuardType Try.prog.depth 39 = false := Try.eqGuardType39
              have hne : ∀ w, (Op.equalIn 10000 39 (.agg (hvA zeroH)) (.agg (hcs zeroH).toArray)).run Try.prog w = .ok true w := fun w => (Try.equalHash w zeroH zeroH).trans (by rw [decide_eq_true rfl])
              have HZ := Lib.hid hz
              clear hz
              go_region_held3 (fun w' => w'.rangeAt wr.heap.size 0 (hcs zeroH)) (first | exact hr5 | exact hrz) (first | (refine (hash_any p _ G _ HINz.out (HGz.out)).mono ?_; rw [HI.out]; rintro e w5 ⟨rfl, h5, k5⟩; have hr5 := hrz.keptK k5 (by simp; omega)))
              all_goals
                have H5 := Lib.hid h5
                have K5 := Lib.hid (KZ.out.trans k5 (by simp))
                clear h5 k5 hrz hr5 hty hln hsi hone hgt hne
                go_wp2_with fail
                refine (bad_any p _ G _ H5.out).mono ?_
                rintro e w6 ⟨rfl, rfl⟩
                go_wp2
                go_roundw
                case rel => exact ⟨k + 1, t + 32, none, by omega, by go_num, by go_num, by omega, rfl, trivial, H5.out, HKP.out.trans K5.out (by simp)⟩
                case measure => simp [intOf]; omega
            · have hin : t + 32 ≤ l.length := by have := of_decide_eq_false hd1; omega
              have HI := Lib.hid (rHash_long (l := l) (t := t) hin)
              obtain ⟨b1, o1, rfl, _, _⟩ := HRa.out.spot (by rw [bcs_length]; omega)
              have hcle : l.length ≤ c := HRa.out.le
              have hcmx := HRa.out.max
              unfold maxLen at hcmx
              have hcut := HRa.out.cut t l.length c (by omega) hcle (Nat.le_refl _) (Nat.le_refl _)
              rw [if_neg (show ¬ c = t by omega), Nat.mul_one, Nat.mul_one, bcs_take, bcs_drop, List.take_length] at hcut
              simp only [Option.map_some, Addr.add_mid] at hcut
              obtain ⟨h32, hh⟩ : ∃ h32, h32 = toH ((l.drop t).take 32) := ⟨_, rfl⟩
              have HH := Lib.hid hh
              rw [← hh] at HI
              clear hh
              have hct : ¬ c = t := by omega
              have hpz : p < wr.heap.size := HIN.out.lt
              go_wp2_with (refine wpList_set Try.thash rfl rfl (heap_alloc_new wr _) rfl (hvA_size zeroH) (hvA_one zeroH) rfl (congrArg Value.agg zeroH_lit) ?_; intro w3 hz0 k3 s3)
              have kz3 : Kp [] wr w3 := ((Kp.refl [] wr).alloc _).trans k3 (by simp)
              have hcutz := (hcut.below kz3).drew
              go_region_law ((refine step_copy_rd (dT := 22) rfl rfl Try.underlying22 (by kernel_rfl) rfl rfl hcutz hz0 (by rw [hvA_size]; omega) (bcs_one _) ?_; intro w4 hz4 k4 s4))
              have hz : w4.heap[wr.heap.size]? = some (.cells (hvA h32) 39 (0, 0)) := by
                have hlen : ((l.drop t).take 32).length = 32 := by simp; omega
                rw [hz4, Nat.min_eq_right (show 32 ≤ l.length - t by omega), bcs_take, splice_full _ _ (by rw [bcs_length, hlen]; simp [hvA_size]), HH.out]
                unfold hvA hcs; rw [toH_of _ hlen]
              have kz : Kp [] wr w4 := (kz3.drew).trans k4 (by simp)
              have KZ := Lib.hid (kz.mono (G := [p]) (by simp)).drew
              have HINz := Lib.hid (HIN.out.kept kz.drew (by simp) (by simp))
              have HGz := Lib.hid (fun x (hx : x ∈ G) => Nat.lt_of_lt_of_le (HG2.out x (by simp [hx])) (Nat.le_trans HKP.out.size KZ.out.size))
              clear kz kz3 k3 s3 k4 hz4 s4 hcutz hcut hz0
              go_wp2_with fail
              have hrz := World.rangeAt_of_block hz.drewB 0 32
              rw [show ((hvA h32).extract 0 (0 + 32)).toList = hcs h32 by rw [show (0 + 32) = (hvA h32).size by rw [hvA_size]]; simp [hvA]] at hrz
              have hty : Try.prog.underlying 39 = some (.array 32 5) := Try.underlying39
              have hln : (hcs h32).length = 32 := hcs_length _
              have hsi : (Try.prog.info? 39).map (·.size) = some (hcs h32).length := by rw [hln]; exact Try.thash.s
              have hone : ∀ u ∈ hcs h32, u.oneCell' = true := fun u hu => hvA_one h32 u (by simpa [hvA] using hu)
              have hgt : Try.prog.eqGuardType Try.prog.depth 39 = false := Try.eqGuardType39
              have hne : ∀ w, (Op.equalIn 10000 39 (.agg (hvA h32)) (.agg (hcs h32).toArray)).run Try.prog w = .ok true w := fun w => (Try.equalHash w h32 h32).trans (by rw [decide_eq_true rfl])
              have HZ := Lib.hid hz
              clear hz
              go_region_held3 (fun w' => w'.rangeAt wr.heap.size 0 (hcs h32)) (first | exact hr5 | exact hrz) (first | (refine (hash_any p _ G _ HINz.out (HGz.out)).mono ?_; rw [HI.out]; rintro e w5 ⟨rfl, h5, k5⟩; have hr5 := hrz.keptK k5 (by simp; omega)))
              all_goals
                have H5 := Lib.hid h5
                have K5 := Lib.hid (KZ.out.trans k5 (by simp))
                clear h5 k5 hrz hr5 hty hln hsi hone hgt hne
                go_wp2_with fail
                refine (bad_any p _ G _ H5.out).mono ?_
                rintro e w6 ⟨rfl, rfl⟩
                go_wp2
                go_roundw
                case rel => exact ⟨k + 1, t + 32, some (l.drop (t + 32)), by omega, by go_num, by go_num, by omega, rfl, ⟨hin, rfl⟩, H5.out, HKP.out.trans K5.out (by simp)⟩
                case measure => simp [intOf]; omega
      · as_aux_lemma =>
          have hrem : (y.toNat : Int) % 6 = 5 := by omega
          clear hm
          rcases hne with rfl | ⟨r, rfl⟩
          · go_wp2_with fail
            refine (bool_any p none G _ HIN.out HP.out).mono ?_
            rw [rBool_none]
            rintro e w5 ⟨rfl, h5, k5⟩
            have H5 := Lib.hid h5
            have K5 := Lib.hid k5
            clear h5 k5

            go_wp2_with fail
            refine (bad_any p _ G _ H5.out).mono ?_
            rintro e w6 ⟨rfl, rfl⟩
            go_wp2
            go_roundw
            case rel => exact ⟨k + 1, t + 1, none, by omega, by go_num, by go_num, by omega, rfl, trivial, H5.out, HKP.out.trans K5.out (by simp)⟩
            case measure => simp [intOf]; omega
          · obtain ⟨htl, rfl⟩ := hs
            by_cases hin : t < l.length
            · have hltb := HLT.out (by rw [bcs_length]; omega)
              obtain ⟨b1, o1, rfl, _, hc1⟩ := HRa.out.spot (by rw [bcs_length]; omega)
              have hcx : wr.cell? ⟨b1, o1 + t, none⟩ = some (bcell l[t]) := hc1 t _ (by simp [bcs, hin])
              obtain ⟨x, hx⟩ : ∃ x : UInt8, x = l[t] := ⟨_, rfl⟩
              have HB := Lib.hid (rBool_long hin hx.symm)
              have hbp : b1 ≠ p := by have := hltb b1 (by simp [aF]); omega
              have HBP := Lib.hid hbp
              unfold bcell at hcx
              rw [← hx] at hcx
              have HX := Lib.hid hcx
              clear hc1 hx hbp hltb
              have hge : decide (l.length ≤ t) = false := decide_eq_false (by omega)
              have hx3 : x.toNat = 0 ∨ x.toNat = 1 ∨ 1 < x.toNat := by omega
              rcases hx3 with hx0 | hx0 | hx0
              · rw [hx0] at HB hcx

                go_wp2_with fail
                refine (bool_any p _ G _ HIN.out HP.out).mono ?_
                rw [HB.out, if_neg (by decide)]
                rintro e w5 ⟨rfl, h5, k5⟩
                have H5 := Lib.hid h5
                have K5 := Lib.hid k5
                have hcx5 := (K5.out.cell (p := ⟨b1, o1 + t, none⟩) (World.block_lt_of_cell? _ _ hcx) (by simp; exact HBP.out)).trans hcx
                clear h5 k5

                go_wp2_with fail
                refine (bad_any p _ G _ H5.out).mono ?_
                rintro e w6 ⟨rfl, rfl⟩
                go_wp2
                go_roundw
                case rel => exact ⟨k + 1, t + 1, some (l.drop (t + 1)), by omega, by go_num, by go_num, by omega, rfl, ⟨hin, rfl⟩, H5.out, HKP.out.trans K5.out (by simp)⟩
                case measure => simp [intOf]; omega
              · rw [hx0] at HB hcx

                go_wp2_with fail
                refine (bool_any p _ G _ HIN.out HP.out).mono ?_
                rw [HB.out, if_neg (by decide)]
                rintro e w5 ⟨rfl, h5, k5⟩
                have H5 := Lib.hid h5
                have K5 := Lib.hid k5
                have hcx5 := (K5.out.cell (p := ⟨b1, o1 + t, none⟩) (World.block_lt_of_cell? _ _ hcx) (by simp; exact HBP.out)).trans hcx
                clear h5 k5

                go_wp2_with fail
                refine (bad_any p _ G _ H5.out).mono ?_
                rintro e w6 ⟨rfl, rfl⟩
                go_wp2
                go_roundw
                case rel => exact ⟨k + 1, t + 1, some (l.drop (t + 1)), by omega, by go_num, by go_num, by omega, rfl, ⟨hin, rfl⟩, H5.out, HKP.out.trans K5.out (by simp)⟩
                case measure => simp [intOf]; omega
              · have hd := decide_eq_true (show (1 : Int) < (x.toNat : Int) by omega)
                have HX1 := Lib.hid hx0
                clear hx0

                go_wp2_with fail
                refine (bool_any p _ G _ HIN.out HP.out).mono ?_
                rw [HB.out, if_pos HX1.out]
                rintro e w5 ⟨rfl, h5, k5⟩
                have H5 := Lib.hid h5
                have K5 := Lib.hid k5
                have hcx5 := (K5.out.cell (p := ⟨b1, o1 + t, none⟩) (World.block_lt_of_cell? _ _ hcx) (by simp; exact HBP.out)).trans hcx
                clear h5 k5

                go_wp2_with fail
                refine (bad_any p _ G _ H5.out).mono ?_
                rintro e w6 ⟨rfl, rfl⟩
                go_wp2
                go_roundw
                case rel => exact ⟨k + 1, t + 1, none, by omega, by go_num, by go_num, by omega, rfl, trivial, H5.out, HKP.out.trans K5.out (by simp)⟩
                case measure => simp [intOf]; omega
            · have HI := Lib.hid (rBool_short (l := l) (t := t) (by omega))
              go_wp2_with fail
              refine (bool_any p _ G _ HIN.out HP.out).mono ?_
              rw [HI.out]
              rintro e w5 ⟨rfl, h5, k5⟩
              have H5 := Lib.hid h5
              have K5 := Lib.hid k5
              clear h5 k5

              go_wp2_with fail
              refine (bad_any p _ G _ H5.out).mono ?_
              rintro e w6 ⟨rfl, rfl⟩
              go_wp2
              go_roundw
              case rel => exact ⟨k + 1, t + 1, none, by omega, by go_num, by go_num, by omega, rfl, trivial, H5.out, HKP.out.trans K5.out (by simp)⟩
              case measure => simp [intOf]; omega
    · obtain rfl : k = kd.length := by omega
      have hd : (s = none ∧ True) ∨ ∃ r, s = some r ∧ (((t : Int) == (l.length : Int)) = true ∨ ((t : Int) == (l.length : Int)) = false) := by
        cases s with
        | none => exact .inl ⟨rfl, trivial⟩
        | some r => exact .inr ⟨r, rfl, by cases ((t : Int) == (l.length : Int)) <;> simp⟩
      rcases hd with ⟨rfl, -⟩ | ⟨r, rfl, hd | hd⟩
      · go_wp2_with fail
        refine (done_any p _ G _ HIN.out).mono ?_
        rintro e w6 ⟨rfl, rfl⟩
        rw [show isDone none = false from rfl]
        go_wp2_with fail
        refine (awake_any _).mono ?_
        rintro e w7 ⟨rfl, k7⟩
        have K7 := Lib.hid k7
        clear k7
        go_wp2
        go_ret
        exact ⟨rfl, HK.out.trans K7.out (by simp)⟩
      · have HD := Lib.hid (isDone_yes hs hd)
        go_wp2_with fail
        refine (done_any p _ G _ HIN.out).mono ?_
        rintro e w6 ⟨rfl, rfl⟩
        rw [HD.out]
        go_wp2_with fail
        refine (awake_any _).mono ?_
        rintro e w7 ⟨rfl, k7⟩
        have K7 := Lib.hid k7
        clear k7
        go_wp2
        go_ret
        exact ⟨rfl, HK.out.trans K7.out (by simp)⟩
      · have HD := Lib.hid (isDone_no hs hd)
        go_wp2_with fail
        refine (done_any p _ G _ HIN.out).mono ?_
        rintro e w6 ⟨rfl, rfl⟩
        rw [HD.out]
        go_wp2_with fail
        refine (awake_any _).mono ?_
        rintro e w7 ⟨rfl, k7⟩
        have K7 := Lib.hid k7
        clear k7
        go_wp2
        go_ret
        exact ⟨rfl, HK.out.trans K7.out (by simp)⟩

theorem own : ownKnob Try.prog.godebug = none := by kernel_rfl
theorem laidOut : laidOutB Try.prog = true := by kernel_rfl
theorem readable : ∀ t ∈ Try.f5.params.toList, Try.prog.readableRec t = true ∧ t < Try.prog.types.size := by
  rw [Try.params5]
  intro t ht
  simp only [List.mem_cons, List.not_mem_nil, or_false] at ht
  rcases ht with rfl | rfl | rfl <;> exact ⟨by kernel_rfl, of_decide_eq_true (by kernel_rfl)⟩

theorem walk (a : Option Addr) (c : Nat) (l : List UInt8) (a2 : Option Addr) (c2 : Nat) (kd : List UInt8) (most : Int) (w : World) (hr : Rd w a l.length c 1 (bcs l)) (hr2 : Rd w a2 kd.length c2 1 (bcs kd)) :
    Calls Try.prog 5 #[.slice a l.length c, .slice a2 kd.length c2, .int .i64 most] w fun e w' => e = .returned (.bool true) ∧ Kp [] w w' := by
  by_cases h : l.length ≤ 400 ∧ kd.length ≤ 40
  · exact walk_small a c l a2 c2 kd most w hr hr2 h.1 h.2
  · exact walk_big a c l a2 c2 kd most w (by omega) (by have := hr.le; have := hr.max; unfold maxLen at this; omega) (by have := hr2.le; have := hr2.max; unfold maxLen at this; omega)

set_option maxRecDepth 100000 in
theorem lifted (os : Os) (started : os.Started) (H : Type) (enc : TypeId × Value → H) :
    ReturnsInHanded {} Try.checked os 5 .any (Rows.wireReadsSpec.pre6 enc Try.prog Try.f5 Rows.wireReadsRow.domain false) (Rows.wireReadsSpec.post enc Try.prog Try.f5 false true false false) := by
  refine returnsInHanded_of_change (C := Try.checked) own started (by kernel_rfl) Try.func5
    (ChangeSpec.witness6 (enc := enc) (C := Try.checked) false ⟨#[], #[.slice none 0 0, .slice none 0 0, .int .i64 0], []⟩ 8 (by kernel_rfl) (by kernel_rfl) (by kernel_rfl) (by kernel_rfl)) ?_
  intro W base args ds gs before hval0 hW hcnd _
  have hval : ∀ (j : Nat) t v, Try.f5.params[j]? = some t → args[j]? = some v → Value.okWide Try.prog W .any base t v := hval0
  have hW' := hW
  obtain ⟨p, q, hA0, hV, rfl, hfz, hnd⟩ := hW
  have hA : DataW.TrodAll enc Try.prog W 0 (fun _ => true) true Try.f5.params.toList args.toList ds p := hA0
  rw [Try.params5] at hA hval
  obtain ⟨v0, vs0, d0, ds0, p0, q0, hargs, rfl, rfl, h0, r0⟩ := trodAll_cons hA
  obtain ⟨v1, vs1, d1, ds1, p1, q1, rfl, rfl, rfl, h1, r1⟩ := trodAll_cons r0
  obtain ⟨v2, vs2, d2, ds2, p2, q2, rfl, rfl, rfl, h2, r2⟩ := trodAll_cons r1
  obtain ⟨rfl, rfl, rfl⟩ := trodAll_nil r2
  obtain rfl : args = #[v0, v1, v2] := by cases args; simp_all
  obtain ⟨rfl, rfl⟩ := trodVars_none hV
  obtain ⟨a0, n0, c0, rfl⟩ := okWide_slice Try.underlying22 (hval 0 22 v0 rfl rfl)
  obtain ⟨a, c, l, hc, hr⟩ := reads_bytes Try.underlying22 Try.underlying5 (by kernel_rfl) (reads_arg h0)
  simp only [Value.cells, List.cons.injEq, Value.slice.injEq, and_true] at hc
  obtain ⟨rfl, rfl, rfl⟩ := hc
  obtain ⟨a1, n1, c1, rfl⟩ := okWide_slice Try.underlying22 (hval 1 22 v1 rfl rfl)
  obtain ⟨a', c', kd, hc', hr'⟩ := reads_bytes Try.underlying22 Try.underlying5 (by kernel_rfl) (reads_arg h1)
  simp only [Value.cells, List.cons.injEq, Value.slice.injEq, and_true] at hc'
  obtain ⟨rfl, rfl, rfl⟩ := hc'
  obtain ⟨a2, rfl, rfl, rfl, w2⟩ := open_int Try.underlying3 (hval 2 3 v2 rfl rfl) h2
  refine (walk _ _ _ _ _ _ a2 W hr hr').mono fun e W' ⟨he, hg⟩ => ?_
  subst he
  exact ⟨_, rfl, law_post laidOut readable rfl Try.underlying4 rfl hW' rfl rfl rfl hg⟩

theorem over : Rows.wireReadsRow.holds Try.pinned (OpenSpec.ofChange Rows.wireReadsSpec) :=
  OpenClaim.holds_of_wide 5 Try.f5 rfl rfl rfl rfl rfl rfl rfl ⟨rfl, rfl, rfl, rfl, rfl⟩ rfl rfl rfl rfl rfl (by kernel_rfl) Try.func5 (by kernel_rfl)
    (of_decide_eq_true (by kernel_rfl)) (by unfold Func.isWrapper; rw [if_neg (by decide +kernel)]; exact ⟨rfl, rfl⟩)
    (fun os started H enc _ => lifted os started H enc)

theorem proved : Rows.WireReadsSaid := over

end Go.Proofs.Ytngdbblgnimogaa.wireReads
