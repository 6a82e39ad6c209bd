/-
  For any bytes, and any bound, WireHashes returns true: they are so many hashes, one behind the other, or refused; no condition.
-/
import Derived.Test.YtngdbblgnimogaaRead
import Derived.Test.YtngdbblgnimogaaOpen
import Derived.Test.YtngdbblgnimogaaQuiet
namespace Go.Proofs.Ytngdbblgnimogaa.wireHashes
open Go.ChangeShapes Go.WideShapes Go.ChangeAt Go.RowKit Go.Proofs.Ytngdbblgnimogaa

theorem own : ownKnob Try.prog.godebug = none := by kernel_rfl
theorem laidOut : laidOutB Try.prog = true := by kernel_rfl
theorem readable : ∀ t ∈ Try.f4.params.toList, Try.prog.readableRec t = true ∧ t < Try.prog.types.size := by
  rw [Try.params4]
  intro t ht
  simp only [List.mem_cons, List.not_mem_nil, or_false] at ht
  rcases ht with rfl | rfl <;> exact ⟨by kernel_rfl, of_decide_eq_true (by kernel_rfl)⟩

theorem rHs_good : ∀ (n : Nat) (r : List UInt8), n * 32 ≤ r.length → ∃ hs, rHs n (some r) = (hs, some (r.drop (n * 32))) ∧ hs.length = n ∧ hb hs = r.take (n * 32)
  | 0, r, _ => ⟨[], by simp [rHs], rfl, by simp [hb]⟩
  | n + 1, r, h => by
    have hr : rHash (some r) = (toH (r.take 32), some (r.drop 32)) := by simp [rHash, rTake, show 32 ≤ r.length by omega]
    obtain ⟨hs, h1, h2, h3⟩ := rHs_good n (r.drop 32) (by simp; omega)
    refine ⟨toH (r.take 32) :: hs, ?_, by simp [h2], ?_⟩
    · rw [rHs_succ, hr, h1, List.drop_drop]
      simp only [Prod.mk.injEq, true_and, Option.some.injEq]
      congr 1; omega
    · have : (toH (r.take 32)).1 = r.take 32 := toH_of _ (by simp; omega)
      simp only [hb, List.flatMap_cons] at h3 ⊢
      rw [h3, this, show (n + 1) * 32 = 32 + n * 32 by omega, List.take_add]
theorem hb_at (hs : List Hsh) (k : Nat) (hk : k < hs.length) : ((hb hs).drop (k * 32)).take 32 = hs[k].1 := by
  have e : hb hs = hb (hs.take k) ++ (hs[k].1 ++ hb (hs.drop (k + 1))) := by
    have h1 : hs = hs.take k ++ hs[k] :: hs.drop (k + 1) := by rw [List.getElem_cons_drop hk, List.take_append_drop]
    exact (congrArg hb h1).trans (by unfold hb; rw [List.flatMap_append]; rfl)
  have hl : (hb (hs.take k)).length = k * 32 := by rw [hb_length, List.length_take]; congr 1; omega
  rw [e, List.drop_left' hl, List.take_left' hs[k].2]

theorem slice_eq (l : List UInt8) (n k : Nat) (hk : k < n) : (l.take (36 + 32 * k)).drop (4 + 32 * k) = (((l.drop 4).take (n * 32)).drop (k * 32)).take 32 := by
  apply List.ext_getElem?
  intro i
  rw [List.getElem?_drop, List.getElem?_take, List.getElem?_take, List.getElem?_drop, List.getElem?_take, List.getElem?_drop]
  by_cases hi : i < 32
  · rw [if_pos (by omega), if_pos hi, if_pos (by omega)]
    congr 1; omega
  · rw [if_neg (by omega), if_neg hi]
theorem rHashes_bad {most : Int} {l : List UInt8} (h : l.length < 4 ∨ 4 ≤ l.length ∧ (most < (num (l.take 4) : Int) ∨ l.length < 4 + 32 * num (l.take 4))) : rHashes most (some l) = ([], none) := by
  have hm : rMany most 32 (some l) = (0, none) := by
    rcases h with h | ⟨h, h2⟩
    · simp [rMany, rTake, show ¬ 4 ≤ l.length by omega]
    · simp only [rMany, rTake, if_pos h]
      rw [if_pos ?_]
      rcases h2 with h2 | h2
      · exact .inl h2
      · right; rw [List.length_drop]; omega
  simp [rHashes, hm, rHs]
theorem rHashes_good {most : Int} {l : List UInt8} (h : 4 ≤ l.length) (h1 : (num (l.take 4) : Int) ≤ most) (h2 : 4 + 32 * num (l.take 4) ≤ l.length) :
    ∃ hs, rHashes most (some l) = (hs, some (l.drop (4 + 32 * num (l.take 4)))) ∧ hs.length = num (l.take 4) ∧ hb hs = (l.drop 4).take (num (l.take 4) * 32) := by
  have hm : rMany most 32 (some l) = (num (l.take 4), some (l.drop 4)) := by
    simp only [rMany, rTake, if_pos h]
    rw [if_neg ?_]
    rw [List.length_drop]; omega
  obtain ⟨hs, e1, e2, e3⟩ := rHs_good (num (l.take 4)) (l.drop 4) (by simp; omega)
  refine ⟨hs, ?_, e2, e3⟩
  rw [rHashes, hm, e1, List.drop_drop, show 4 + num (l.take 4) * 32 = 4 + 32 * num (l.take 4) by omega]

theorem walk_big (a : Option Addr) (c : Nat) (l : List UInt8) (most : Int) (w : World) (hl : 2000 < l.length) (hl2 : l.length ≤ 9223372036854775807) :
    Calls Try.prog 4 #[.slice a l.length c, .int .i64 most] w fun e w' => e = .returned (.bool true) ∧ Kp [] w w' := by
  go_enter Try.func4, Try.ntmps4
  go_wp2_with fail
  refine (awake_any _).mono ?_
  rintro e w1 ⟨rfl, k1⟩
  have K1 := Lib.hid k1
  clear k1
  go_wp2
  go_ret
  exact ⟨rfl, K1.out⟩

/-- The readers' bytes and the hashes, in one: what NewIn and Hashes leave. -/
theorem walk_bad (a : Option Addr) (c : Nat) (l : List UInt8) (most : Int) (w : World) (hr : Rd w a l.length c 1 (bcs l)) (hl : l.length ≤ 2000)
    (h : l.length < 4 ∨ 4 ≤ l.length ∧ (most < (num (l.take 4) : Int) ∨ l.length < 4 + 32 * num (l.take 4))) :
    Calls Try.prog 4 #[.slice a l.length c, .int .i64 most] w fun e w' => e = .returned (.bool true) ∧ Kp [] w w' := by
  have HB := Lib.hid (rHashes_bad h)
  have hz : rInt none = (0, none) := rfl
  have HZ := Lib.hid hz
  have HR := Lib.hid hr
  clear hz hr
  have hn4 := num4 l
  have hw : wrap64 (num (l.take 4)) = num (l.take 4) := IntWalk.wrap64_in _ ⟨by omega, by omega⟩
  obtain ⟨n, hnn⟩ : ∃ n, n = num (l.take 4) := ⟨_, rfl⟩
  rw [← hnn] at h hw hn4
  have HN := Lib.hid hnn
  have HW := Lib.hid hw
  clear hnn hw
  have h' : (l.length < 4) ∨ (4 ≤ l.length ∧ decide (most < (n : Int)) = true) ∨ (4 ≤ l.length ∧ (n : Int) ≤ most ∧ l.length < 4 + 32 * n) := by
    rcases h with h | ⟨h1, h2⟩
    · exact .inl h
    · by_cases h3 : most < (n : Int)
      · exact .inr (.inl ⟨h1, decide_eq_true h3⟩)
      · exact .inr (.inr ⟨h1, by omega, by rcases h2 with h2 | h2; omega; exact h2⟩)
  clear h
  rcases h' with h1 | ⟨h1, h2⟩ | ⟨h1, h2, h3⟩
  all_goals
    go_enter Try.func4, Try.ntmps4
    go_wp2_with fail
    refine (newIn_any a c l _ HR.out (by omega)).mono ?_
    rintro e w1 ⟨p, G, rfl, h4, hG, hG2, hpG, k1⟩
    have H4 := Lib.hid h4
    have HG := Lib.hid hG
    have HG2 := Lib.hid hG2
    have HP := Lib.hid hpG
    have K1 := Lib.hid k1
    clear h4 hG hG2 hpG k1
    go_wp2_with fail
    refine (hashes_any p most _ G _ H4.out HP.out (fun x hx => HG2.out x (by simp [hx]))).mono ?_
    rw [HB.out]
    rintro e w2 ⟨a2, c2, rfl, hown, hF, h5, k2⟩
    have H5 := Lib.hid h5
    have K2 := Lib.hid k2
    clear hown hF h5 k2
    go_wp2_with fail
    first
      | (refine (read_no a c l 0 4 _ (by omega) (by decide) (by decide)).mono ?_; rintro e w3 ⟨rfl, rfl⟩)
      | (refine (read_yes a c l 0 4 _ ((HR.out.below K1.out).kept K2.out (fun x hx hh => by have h1 := HR.out.lt (by rw [bcs_length]; omega) x hx; have h2 := HG.out p (by simp); simp at hh; omega)) (by omega) (by decide) (by omega)).mono ?_; rw [List.drop_zero, ← HN.out, HW.out]; rintro e w3 ⟨rfl, rfl⟩)
    go_wp2_with fail
    refine (bad_any p _ G _ H5.out).mono ?_
    rintro e w6 ⟨rfl, rfl⟩
    rw [show (none : St).isNone = true from rfl]
    go_wp2_with fail
    refine (done_any p _ G _ H5.out).mono ?_
    rintro e w7 ⟨rfl, rfl⟩
    rw [show isDone none = false from rfl]
    go_wp2_with fail
    refine (int_any p _ G _ H5.out).mono ?_
    rw [HZ.out]
    rintro e w6 ⟨rfl, h6, k6⟩
    have K6 := Lib.hid k6
    clear h6 k6
    go_wp2_with fail
    refine (awake_any _).mono ?_
    rintro e w7 ⟨rfl, k7⟩
    have K7 := Lib.hid k7
    clear k7
    go_wp2
    go_ret
    have hp : w.heap.size ≤ p := HG.out p (by simp)
    exact ⟨rfl, ((K1.out.trans K2.out (by simp; omega)).trans K6.out (by simp; omega)).trans K7.out (by simp)⟩

set_option maxHeartbeats 1000000 in
theorem walk_good (a : Option Addr) (c : Nat) (l : List UInt8) (most : Int) (w : World) (hr : Rd w a l.length c 1 (bcs l)) (hl : l.length ≤ 2000)
    (h1 : 4 ≤ l.length) (h2 : (num (l.take 4) : Int) ≤ most) (h3 : 4 + 32 * num (l.take 4) ≤ l.length) :
    Calls Try.prog 4 #[.slice a l.length c, .int .i64 most] w fun e w' => e = .returned (.bool true) ∧ Kp [] w w' := by
  obtain ⟨hs, hh1, hh2, hh3⟩ := rHashes_good h1 h2 h3
  have hn4 := num4 l
  have hw : wrap64 (num (l.take 4)) = num (l.take 4) := IntWalk.wrap64_in _ ⟨by omega, by omega⟩
  rw [← hh2] at h2 h3 hw hn4 hh1 hh3
  have HH1 := Lib.hid hh1
  have HH3 := Lib.hid hh3
  have HN := Lib.hid hh2
  have HW := Lib.hid hw
  clear hw hh1 hh2 hh3
  obtain ⟨rest, hrest⟩ : ∃ rest, rest = l.drop (4 + 32 * hs.length) := ⟨_, rfl⟩
  obtain ⟨bb, hbb⟩ : ∃ bb, ((4 + 32 * (hs.length : Int)) == (l.length : Int)) = bb := ⟨_, rfl⟩
  have hdone : isDone (some rest) = bb := by
    have hrl : rest.length = l.length - (4 + 32 * hs.length) := by rw [hrest, List.length_drop]
    rw [← hbb]
    cases rest with
    | nil => simp at hrl; simp [isDone]; omega
    | cons x r => simp at hrl; simp [isDone]; omega
  have HRE := Lib.hid hrest
  have HD := Lib.hid hdone
  have hlt := hr.lt (by rw [bcs_length]; omega)
  have HLT := Lib.hid hlt
  have HR := Lib.hid hr
  clear hrest hdone hr hlt
  go_enter Try.func4, Try.ntmps4
  go_wp2_with fail
  refine (newIn_any a c l _ HR.out (by omega)).mono ?_
  rintro e w1 ⟨p, G, rfl, h4, hG, hG2, hpG, k1⟩
  have H4 := Lib.hid h4
  have HG := Lib.hid hG
  have HG2 := Lib.hid hG2
  have HP := Lib.hid hpG
  have K1 := Lib.hid k1
  clear h4 hG hG2 hpG k1
  go_wp2_with fail
  refine (hashes_any p most _ G _ H4.out HP.out (fun x hx => HG2.out x (by simp [hx]))).mono ?_
  rw [HH1.out, ← HRE.out]
  rintro e w2 ⟨a2, c2, rfl, hown, hF, h5, k2⟩
  have hrd2 := own_rd hown
  have H5 := Lib.hid h5
  have K2 := Lib.hid k2
  have HR2 := Lib.hid hrd2
  clear hown hF h5 k2 hrd2
  have hpw : w.heap.size ≤ p := HG.out p (by simp)
  have HRb := Lib.hid ((HR.out.below K1.out).kept K2.out (fun x hx hh => by have := HLT.out x hx; simp at hh; omega))
  have KK := Lib.hid (K1.out.trans K2.out (by simp; omega))
  go_wp2_with fail
  refine (read_yes a c l 0 4 _ HRb.out (by omega) (by decide) (by omega)).mono ?_
  rw [List.drop_zero, ← HN.out, HW.out]
  rintro e w3 ⟨rfl, rfl⟩
  go_wp2_with fail
  refine (bad_any p _ G _ H5.out).mono ?_
  rintro e w6 ⟨rfl, rfl⟩
  rw [show (some rest : St).isNone = false from rfl]
  go_wp2_with fail
  refine (done_any p _ G _ H5.out).mono ?_
  rw [HD.out]
  rintro e w7 ⟨rfl, rfl⟩
  go_wp2
  go_loopw [9, 10, 81] (fun _ _ i wr => ∃ k : Nat, k ≤ hs.length ∧ i = .int .i64 k ∧ Kp [] w2 wr) (fun _ _ i _ => hs.length - (intOf i).toNat)
  case atStart => exact ⟨0, by omega, rfl, Kp.refl _ _⟩
  case round =>
    obtain ⟨k, hk, rfl, hkp⟩ := hrel
    by_cases hlt : k < hs.length
    · have hrb := HRb.out.below hkp
      have hr2 := HR2.out.below hkp
      obtain ⟨b2, o2, rfl, _, hc2⟩ := hr2.spot (by rw [hsc_length]; omega)
      obtain ⟨b1, o1, rfl, _, hc1⟩ := hrb.spot (by rw [bcs_length]; omega)
      have hra := rd_hash hc2 k hlt
      have hk1 : k ≤ 62 := by omega
      have hbytes : (l.take (36 + 32 * k)).drop (4 + 32 * k) = hs[k].1 := by rw [← hb_at hs k hlt, HH3.out]; exact slice_eq l hs.length k hlt
      obtain ⟨x, hx⟩ : ∃ x, x = hs[k] := ⟨_, rfl⟩
      rw [← hx] at hra hbytes
      have hcut := hrb.cut (4 + 32 * k) (36 + 32 * k) c (by omega) (by have := hrb.le; omega) (Nat.le_refl _) (by omega)
      have hcc : ¬ c = 4 + 32 * k := by have := hrb.le; omega
      have hcle := hrb.le
      have hcmx := hrb.max
      unfold maxLen at hcmx
      rw [if_neg hcc, Nat.mul_one, Nat.mul_one, bcs_take, bcs_drop, hbytes, show 36 + 32 * k - (4 + 32 * k) = 32 by omega] at hcut
      have HCUT := Lib.hid hcut
      clear hcut hbytes hx hrb hr2 hc1 hc2
      go_wp2_with (first | (refine wpList_get_mid Try.thash rfl rfl hra (hcs_length _) rfl ?_) | (refine wpList_set Try.thash rfl rfl (heap_alloc_new wr _) rfl (hvA_size x) (hvA_one x) rfl rfl ?_; intro w5 h5 k5 s5))
      have k5' : Kp [] wr w5 := ⟨k5.os, k5.tape, k5.output, by rw [s5]; simp, fun i hi _ => (k5.block i (by simp; omega) (by simp; omega)).trans (heap_alloc_old wr _ hi)⟩
      have hcut := HCUT.out.below k5'
      have hrx := rd_block (m := 32) (size := 1) h5 (hvA_size x) (by simp [maxLen])
      have hcA : ∀ n, (convert 22 9 (.slice (some ⟨wr.heap.size, 0, none⟩) 32 32)).run Try.prog (w5.drewN n) = .ok (.string ⟨x.1.toArray⟩) (w5.drewN n) := fun n => by
        have := conv_string (P := Try.prog) Try.underlying22 Try.underlying5 Try.underlying9 (a := some ⟨wr.heap.size, 0, none⟩) (c := 32) (l := x.1) (drewN_rd (by rw [x.2]; simpa [hvA, hcs] using hrx) n)
        rwa [x.2] at this
      have hcB : ∀ n, (convert 22 9 (.slice (some ⟨b1, o1 + (4 + 32 * k), none⟩) 32 (c - (4 + 32 * k)))).run Try.prog (w5.drewN n) = .ok (.string ⟨x.1.toArray⟩) (w5.drewN n) := fun n => by
        have := conv_string (P := Try.prog) Try.underlying22 Try.underlying5 Try.underlying9 (a := some ⟨b1, o1 + (4 + 32 * k), none⟩) (c := c - (4 + 32 * k)) (l := x.1) (drewN_rd (by rw [x.2]; simpa [hcs, Addr.add_mid] using hcut) n)
        rwa [x.2] at this
      have e1 : IntKind.i64.wrap (32 * (k : Int)) = 32 * k := IntWalk.i64_in _ (by omega)
      have e2 : IntKind.i64.wrap (4 + 32 * (k : Int)) = 4 + 32 * k := IntWalk.i64_in _ (by omega)
      have e3 : IntKind.i64.wrap (36 + 32 * (k : Int)) = 36 + 32 * k := IntWalk.i64_in _ (by omega)
      have f1 : (4 + 32 * (k : Int)).toNat = 4 + 32 * k := by omega
      have f2 : (36 + 32 * (k : Int)).toNat = 36 + 32 * k := by omega
      have f3 : 36 + 32 * k - (4 + 32 * k) = 32 := by omega
      have K5 := Lib.hid k5'
      have HKP := Lib.hid hkp
      clear hcut hrx k5 k5' hkp h5 s5
      go_frame
      go_quiet (fail)
      clear hcA hcB e1 e2 e3
      go_wp2
      go_roundw
      case rel => exact ⟨k + 1, by omega, by go_num, (HKP.out.trans K5.out (by simp)).drewN _⟩
      case measure => simp [intOf]; omega
    · obtain rfl : k = hs.length := by omega
      go_wp2_with fail
      refine (awake_any _).mono ?_
      rintro e w7 ⟨rfl, k7⟩
      have K7 := Lib.hid k7
      clear k7
      go_wp2
      go_ret
      exact ⟨rfl, (KK.out.trans hkp (by simp)).trans K7.out (by simp)⟩

theorem walk (a : Option Addr) (c : Nat) (l : List UInt8) (most : Int) (w : World) (hr : Rd w a l.length c 1 (bcs l)) :
    Calls Try.prog 4 #[.slice a l.length c, .int .i64 most] w fun e w' => e = .returned (.bool true) ∧ Kp [] w w' := by
  by_cases h : l.length ≤ 2000
  · by_cases hb : l.length < 4 ∨ 4 ≤ l.length ∧ (most < (num (l.take 4) : Int) ∨ l.length < 4 + 32 * num (l.take 4))
    · exact walk_bad a c l most w hr h hb
    · exact walk_good a c l most w hr h (by omega) (by omega) (by omega)
  · exact walk_big a c l most w (by omega) (by have := hr.le; have := hr.max; unfold maxLen at this; omega)

set_option maxRecDepth 100000 in
theorem lifted (os : Os) (started : os.Started) (H : Type) (enc : TypeId × Value → H) :
    ReturnsInHanded {} Try.checked os 4 .any (Rows.wireHashesSpec.pre6 enc Try.prog Try.f4 Rows.wireHashesRow.domain false) (Rows.wireHashesSpec.post enc Try.prog Try.f4 false true false false) := by
  refine returnsInHanded_of_change (C := Try.checked) own started (by kernel_rfl) Try.func4
    (ChangeSpec.witness6 (enc := enc) (C := Try.checked) false ⟨#[], #[.slice none 0 0, .int .i64 0], []⟩ 8 (by kernel_rfl) (by kernel_rfl) (by kernel_rfl) (by kernel_rfl)) ?_
  intro W base args ds gs before hval0 hW hcnd _
  have hval : ∀ (j : Nat) t v, Try.f4.params[j]? = some t → args[j]? = some v → Value.okWide Try.prog W .any base t v := hval0
  have hW' := hW
  obtain ⟨p, q, hA0, hV, rfl, hfz, hnd⟩ := hW
  have hA : DataW.TrodAll enc Try.prog W 0 (fun _ => true) true Try.f4.params.toList args.toList ds p := hA0
  rw [Try.params4] at hA hval
  obtain ⟨v0, vs0, d0, ds0, p0, q0, hargs, rfl, rfl, h0, r0⟩ := trodAll_cons hA
  obtain ⟨v1, vs1, d1, ds1, p1, q1, rfl, rfl, rfl, h1, r1⟩ := trodAll_cons r0
  obtain ⟨rfl, rfl, rfl⟩ := trodAll_nil r1
  obtain rfl : args = #[v0, v1] := by cases args; simp_all
  obtain ⟨rfl, rfl⟩ := trodVars_none hV
  obtain ⟨a0, n0, c0, rfl⟩ := okWide_slice Try.underlying22 (hval 0 22 v0 rfl rfl)
  obtain ⟨a, c, l, hc, hr⟩ := reads_bytes Try.underlying22 Try.underlying5 (by kernel_rfl) (reads_arg h0)
  simp only [Value.cells, List.cons.injEq, Value.slice.injEq, and_true] at hc
  obtain ⟨rfl, rfl, rfl⟩ := hc
  obtain ⟨a1, rfl, rfl, rfl, w1⟩ := open_int Try.underlying3 (hval 1 3 v1 rfl rfl) h1
  refine (walk _ _ _ a1 W hr).mono fun e W' ⟨he, hg⟩ => ?_
  subst he
  exact ⟨_, rfl, law_post laidOut readable rfl Try.underlying4 rfl hW' rfl rfl rfl hg⟩

theorem over : Rows.wireHashesRow.holds Try.pinned (OpenSpec.ofChange Rows.wireHashesSpec) :=
  OpenClaim.holds_of_wide 4 Try.f4 rfl rfl rfl rfl rfl rfl rfl ⟨rfl, rfl, rfl, rfl, rfl⟩ rfl rfl rfl rfl rfl (by kernel_rfl) Try.func4 (by kernel_rfl)
    (of_decide_eq_true (by kernel_rfl)) (by unfold Func.isWrapper; rw [if_neg (by decide +kernel)]; exact ⟨rfl, rfl⟩)
    (fun os started H enc _ => lifted os started H enc)

theorem proved : Rows.WireHashesSaid := over

end Go.Proofs.Ytngdbblgnimogaa.wireHashes
