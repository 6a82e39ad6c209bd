/-
  For every three whole numbers WireCounts returns true: a number that is written is read as a count just if it lies within the bounds; no condition.
-/
import Derived.Test.YtngdbblgnimogaaWire9
import Derived.Test.YtngdbblgnimogaaRow
namespace Go.Proofs.Ytngdbblgnimogaa.wireCounts
open Go.ChangeShapes Go.WideShapes Go.ChangeAt Go.RowKit Go.Proofs.Ytngdbblgnimogaa

theorem own : ownKnob Try.prog.godebug = none := by kernel_rfl
theorem laidOut : laidOutB Try.prog = true := by kernel_rfl

theorem readable : ∀ t ∈ Try.f3.params.toList, Try.prog.readableRec t = true ∧ t < Try.prog.types.size := by
  rw [Try.params3]
  intro t ht
  simp only [List.mem_cons, List.not_mem_nil, or_false] at ht
  rcases ht with rfl | rfl | rfl <;> exact ⟨by kernel_rfl, of_decide_eq_true (by kernel_rfl)⟩

theorem walk (n least most : Int) (w0 : (Lit.int .i64 n).wf = true) (w : World) :
    Calls Try.prog 3 #[.int .i64 n, .int .i64 least, .int .i64 most] w fun e w' => e = .returned (.bool true) ∧ Kp [] w w' := by
  have hn := bounds_i64 w0
  have hn1 : -9223372036854775808 ≤ n := by omega
  have hn2 : n ≤ 9223372036854775807 := by omega
  have hi := rInt_app n (be 8 7) hn1 hn2
  have h7 : rInt (some (be 8 7)) = (7, some []) := by have := rInt_app 7 [] (by decide) (by decide); simpa using this
  have H7 := Lib.hid h7
  have HN := Lib.hid (out_new w)
  clear hn1 hn2 h7
  by_cases hok : least ≤ n ∧ n ≤ most
  · obtain ⟨ho1, ho2⟩ := hok
    have hc : rCount least most (some (be 8 n ++ be 8 7)) = (n, some (be 8 7)) := by simp only [rCount, hi]; rw [if_neg (by omega)]
    have HC := Lib.hid hc
    clear hc hi hn
    go_enter Try.func3, Try.ntmps3
    go_wp2_with fail
    refine (oint_any w.heap.size [] [w.heap.size] n _ HN.out (by simp)).mono ?_
    rintro e w1 ⟨rfl, F1, h1, k1⟩
    have H1 := Lib.hid h1
    have K1 := Lib.hid k1
    clear h1 k1
    go_wp2_with fail
    refine (oint_any w.heap.size _ F1 7 _ H1.out (by simp [be_length])).mono ?_
    rintro e w2 ⟨rfl, F2, h2, k2⟩
    have H2 := Lib.hid h2
    have K2 := Lib.hid k2
    clear h2 k2
    go_wp2_with fail
    refine (oall_any w.heap.size _ F2 _ H2.out (by simp [be_length])).mono ?_
    rintro e w3 ⟨a, c, rfl, hown, hF, k3⟩
    have hrd := own_rd hown
    have K3 := Lib.hid k3
    have HR := Lib.hid hrd
    clear hown hF k3 hrd
    obtain ⟨l, hl⟩ : ∃ l, l = ([] ++ be 8 n ++ be 8 7) := ⟨_, rfl⟩
    rw [← hl] at HR ⊢
    have hll : l.length = 16 := by rw [hl]; simp [be_length]
    have hl2 : l = be 8 n ++ be 8 7 := by rw [hl]; simp
    have HL := Lib.hid hl2
    have HLL := Lib.hid hll
    clear hl hll hl2
    go_wp2_with fail
    refine (newIn_any a c l _ HR.out (by have := HLL.out; omega)).mono ?_
    rintro e w4 ⟨p, G, rfl, h4, hG, hG2, hpG, k4⟩
    rw [HL.out] at h4
    have H4 := Lib.hid h4
    have HG := Lib.hid hG
    have K4 := Lib.hid k4
    clear h4 hG hG2 k4 hpG
    go_wp2_with fail
    refine (count_any p least most _ G _ H4.out).mono ?_
    rw [HC.out]
    rintro e w5 ⟨rfl, h5, k5⟩
    have H5 := Lib.hid h5
    have K5 := Lib.hid k5
    clear h5 k5
    go_wp2_with fail
    refine (bad_any p _ G _ H5.out).mono ?_
    rintro e w6 ⟨rfl, rfl⟩
    rw [show (some (be 8 7)).isNone = false from rfl]
    go_wp2_with fail
    refine (done_any p _ G _ H5.out).mono ?_
    rintro e w6 ⟨rfl, rfl⟩
    rw [show isDone (some (be 8 7)) = false from rfl]
    go_wp2_with fail
    refine (int_any p _ G _ H5.out).mono ?_
    rw [H7.out]
    rintro e w6 ⟨rfl, h6, k6⟩
    have H6 := Lib.hid h6
    have K6 := Lib.hid k6
    clear h6 k6
    go_wp2_with fail
    refine (done_any p _ G _ H6.out).mono ?_
    rintro e w7 ⟨rfl, rfl⟩
    rw [show isDone (some []) = true from rfl]
    go_wp2_with fail
    refine (awake_any _).mono ?_
    rintro e w7 ⟨rfl, k7⟩
    have K7 := Lib.hid k7
    clear k7
    go_wp2
    go_ret
    have hF1 := K1.out.all (B := w.heap.size) (by simp) (by simp)
    have c3 : Kp [] w w3 := ((((Kp.refl [] w).alloc _).trans K1.out.kp (by simp)).trans K2.out.kp (fun x hx hlt => by have := hF1 x hx; omega)).trans K3.out (by simp)
    have hp : w.heap.size ≤ p := Nat.le_trans c3.size (HG.out p (by simp))
    exact ⟨rfl, (((c3.trans K4.out (by simp)).trans K5.out (by simp; omega)).trans K6.out (by simp; omega)).trans K7.out (by simp)⟩
  · have hc : rCount least most (some (be 8 n ++ be 8 7)) = (0, none) := by simp only [rCount, hi]; rw [if_pos (by omega)]
    have HC := Lib.hid hc
    clear hc hi
    have hz : rInt none = (0, none) := rfl
    have HZ := Lib.hid hz
    clear hz
    have hok' : (n < least ∧ decide (least ≤ n) = false) ∨ (least ≤ n ∧ decide (n ≤ most) = false) := by
      by_cases h : least ≤ n
      · exact .inr ⟨h, decide_eq_false (by omega)⟩
      · exact .inl ⟨by omega, decide_eq_false h⟩
    clear hok
    rcases hok' with ⟨hok, hmm⟩ | ⟨hok, hmm⟩
    all_goals
      go_enter Try.func3, Try.ntmps3
      go_wp2_with fail
      refine (oint_any w.heap.size [] [w.heap.size] n _ HN.out (by simp)).mono ?_
      rintro e w1 ⟨rfl, F1, h1, k1⟩
      have H1 := Lib.hid h1
      have K1 := Lib.hid k1
      clear h1 k1
      go_wp2_with fail
      refine (oint_any w.heap.size _ F1 7 _ H1.out (by simp [be_length])).mono ?_
      rintro e w2 ⟨rfl, F2, h2, k2⟩
      have H2 := Lib.hid h2
      have K2 := Lib.hid k2
      clear h2 k2
      go_wp2_with fail
      refine (oall_any w.heap.size _ F2 _ H2.out (by simp [be_length])).mono ?_
      rintro e w3 ⟨a, c, rfl, hown, hF, k3⟩
      have hrd := own_rd hown
      have K3 := Lib.hid k3
      have HR := Lib.hid hrd
      clear hown hF k3 hrd
      obtain ⟨l, hl⟩ : ∃ l, l = ([] ++ be 8 n ++ be 8 7) := ⟨_, rfl⟩
      rw [← hl] at HR ⊢
      have hll : l.length = 16 := by rw [hl]; simp [be_length]
      have hl2 : l = be 8 n ++ be 8 7 := by rw [hl]; simp
      have HL := Lib.hid hl2
      have HLL := Lib.hid hll
      clear hl hll hl2
      go_wp2_with fail
      refine (newIn_any a c l _ HR.out (by have := HLL.out; omega)).mono ?_
      rintro e w4 ⟨p, G, rfl, h4, hG, hG2, hpG, k4⟩
      rw [HL.out] at h4
      have H4 := Lib.hid h4
      have HG := Lib.hid hG
      have K4 := Lib.hid k4
      clear h4 hG hG2 k4 hpG
      go_wp2_with fail
      refine (count_any p least most _ G _ H4.out).mono ?_
      rw [HC.out]
      rintro e w5 ⟨rfl, h5, k5⟩
      have H5 := Lib.hid h5
      have K5 := Lib.hid k5
      clear h5 k5
      go_wp2_with fail
      refine (bad_any p _ G _ H5.out).mono ?_
      rintro e w6 ⟨rfl, rfl⟩
      rw [show (none : St).isNone = true from rfl]
      go_wp2_with fail
      refine (int_any p _ G _ H5.out).mono ?_
      rw [HZ.out]
      rintro e w6 ⟨rfl, h6, k6⟩
      have H6 := Lib.hid h6
      have K6 := Lib.hid k6
      clear h6 k6
      go_wp2_with fail
      refine (done_any p _ G _ H6.out).mono ?_
      rintro e w7 ⟨rfl, rfl⟩
      rw [show isDone none = false from rfl]
      go_wp2_with fail
      refine (awake_any _).mono ?_
      rintro e w7 ⟨rfl, k7⟩
      have K7 := Lib.hid k7
      clear k7
      go_wp2
      go_ret
      have hF1 := K1.out.all (B := w.heap.size) (by simp) (by simp)
      have c3 : Kp [] w w3 := ((((Kp.refl [] w).alloc _).trans K1.out.kp (by simp)).trans K2.out.kp (fun x hx hlt => by have := hF1 x hx; omega)).trans K3.out (by simp)
      have hp : w.heap.size ≤ p := Nat.le_trans c3.size (HG.out p (by simp))
      exact ⟨rfl, (((c3.trans K4.out (by simp)).trans K5.out (by simp; omega)).trans K6.out (by simp; omega)).trans K7.out (by simp)⟩

set_option maxRecDepth 100000 in
theorem lifted (os : Os) (started : os.Started) (H : Type) (enc : TypeId × Value → H) :
    ReturnsInHanded {} Try.checked os 3 .any (Rows.wireCountsSpec.pre6 enc Try.prog Try.f3 Rows.wireCountsRow.domain false) (Rows.wireCountsSpec.post enc Try.prog Try.f3 false true false false) := by
  refine returnsInHanded_of_change (C := Try.checked) own started (by kernel_rfl) Try.func3
    (ChangeSpec.witness6 (enc := enc) (C := Try.checked) false ⟨#[], #[.int .i64 0, .int .i64 0, .int .i64 0], []⟩ 8 (by kernel_rfl) (by kernel_rfl) (by kernel_rfl) (by kernel_rfl)) ?_
  intro W base args ds gs before hval0 hW hcnd _
  have hval : ∀ (j : Nat) t v, Try.f3.params[j]? = some t → args[j]? = some v → Value.okWide Try.prog W .any base t v := hval0
  have hW' := hW
  obtain ⟨p, q, hA0, hV, rfl, hfz, hnd⟩ := hW
  have hA : DataW.TrodAll enc Try.prog W 0 (fun _ => true) true Try.f3.params.toList args.toList ds p := hA0
  rw [Try.params3] at hA hval
  obtain ⟨v0, vs0, d0, ds0, p0, q0, hargs, rfl, rfl, h0, r0⟩ := trodAll_cons hA
  obtain ⟨v1, vs1, d1, ds1, p1, q1, rfl, rfl, rfl, h1, r1⟩ := trodAll_cons r0
  obtain ⟨v2, vs2, d2, ds2, p2, q2, rfl, rfl, rfl, h2, r2⟩ := trodAll_cons r1
  obtain ⟨rfl, rfl, rfl⟩ := trodAll_nil r2
  obtain rfl : args = #[v0, v1, v2] := by cases args; simp_all
  obtain ⟨rfl, rfl⟩ := trodVars_none hV
  obtain ⟨a0, rfl, rfl, rfl, w0⟩ := open_int Try.underlying3 (hval 0 3 v0 rfl rfl) h0
  obtain ⟨a1, rfl, rfl, rfl, w1⟩ := open_int Try.underlying3 (hval 1 3 v1 rfl rfl) h1
  obtain ⟨a2, rfl, rfl, rfl, w2⟩ := open_int Try.underlying3 (hval 2 3 v2 rfl rfl) h2
  refine (walk a0 a1 a2 w0 W).mono fun e W' ⟨he, hg⟩ => ?_
  subst he
  exact ⟨_, rfl, law_post laidOut readable rfl Try.underlying4 rfl hW' rfl rfl rfl hg⟩

theorem over : Rows.wireCountsRow.holds Try.pinned (OpenSpec.ofChange Rows.wireCountsSpec) :=
  OpenClaim.holds_of_wide 3 Try.f3 rfl rfl rfl rfl rfl rfl rfl ⟨rfl, rfl, rfl, rfl, rfl⟩ rfl rfl rfl rfl rfl (by kernel_rfl) Try.func3 (by kernel_rfl)
    (of_decide_eq_true (by kernel_rfl)) (by unfold Func.isWrapper; rw [if_neg (by decide +kernel)]; exact ⟨rfl, rfl⟩)
    (fun os started H enc _ => lifted os started H enc)

theorem proved : Rows.WireCountsSaid := over

end Go.Proofs.Ytngdbblgnimogaa.wireCounts
