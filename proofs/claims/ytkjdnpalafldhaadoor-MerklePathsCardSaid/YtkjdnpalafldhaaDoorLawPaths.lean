/-
  MerklePaths: any leaf has the path that the document says; what is none is refused.
-/
import Derived.Test.YtkjdnpalafldhaaDoorRoots7
import Derived.Test.YtkjdnpalafldhaaDoorSame
import Derived.Test.YtkjdnpalafldhaaDoorAwake7
import Derived.Test.YtkjdnpalafldhaaDoorDoor
import Derived.Test.YtkjdnpalafldhaaDoorTie
import Derived.Test.YtkjdnpalafldhaaDoorCards
namespace Go.Proofs.YtkjdnpalafldhaaDoor.merklePaths
open Go.ChangeShapes Go.WideShapes Go.ChangeAt Go.RowKit Go.Proofs.YtkjdnpalafldhaaDoor

theorem readable : ∀ t ∈ Tryd.f4.params.toList, Tryd.prog.readableRec t = true ∧ t < Tryd.prog.types.size := by
  rw [Tryd.params4]
  intro t ht
  simp only [List.mem_cons, List.not_mem_nil, or_false] at ht
  rcases ht with rfl | rfl <;> exact ⟨by kernel_rfl, of_decide_eq_true (by kernel_rfl)⟩

theorem walk_big (l : List Hsh) (a : Option Addr) (c : Nat) (i : Int) (w : World) (hl : 70 < l.length) (hl2 : l.length ≤ 9223372036854775807) (hL : Laid w) (h2 : 2 ≤ w.heap.size) :
    Calls Tryd.prog 4 #[.slice a l.length c, .int .i64 i] w fun e w' => e = .returned (.bool true) ∧ Kp [] w w' := by
  have HL := Lib.hid hL
  clear hL
  go_enter Tryd.func4, Tryd.ntmps4
  go_wp2_with fail
  refine (awake7_any _ HL.out h2).mono ?_
  rintro e w2 ⟨rfl, k2⟩
  have K2 := Lib.hid k2
  clear k2
  go_wp2
  go_ret
  exact ⟨rfl, K2.out⟩

theorem walk_bad (l : List Hsh) (a : Option Addr) (c : Nat) (i : Int) (w : World) (hl : l.length ≤ 70) (hi : i < 0 ∨ (l.length : Int) ≤ i) (hL : Laid w) (h2 : 2 ≤ w.heap.size) :
    Calls Tryd.prog 4 #[.slice a l.length c, .int .i64 i] w fun e w' => e = .returned (.bool true) ∧ Kp [] w w' := by
  have HL := Lib.hid hL
  have HP := Lib.hid (fun W => path_bad l a c i W hi)
  have hi' : i < 0 ∨ (¬ i < 0 ∧ ((l.length : Int) ≤ i)) := by omega
  clear hL hi
  rcases hi' with hi | ⟨h0, hi⟩
  all_goals
    go_enter Tryd.func4, Tryd.ntmps4
    go_wp2_with fail
    refine (HP.out _).mono ?_
    rintro e w1 ⟨rfl, rfl⟩
    go_wp2_with fail
    refine (awake7_any _ HL.out h2).mono ?_
    rintro e w2 ⟨rfl, k2⟩
    have K2 := Lib.hid k2
    clear k2
    go_wp2
    go_ret
    exact ⟨rfl, K2.out⟩

theorem walk_good (l : List Hsh) (a : Option Addr) (c : Nat) (i : Nat) (w : World) (hr : Rd w a l.length c 32 (hsc l)) (hl : l.length ≤ 70) (hi : i < l.length) (hL : Laid w) (h2 : 2 ≤ w.heap.size) :
    Calls Tryd.prog 4 #[.slice a l.length c, .int .i64 i] w fun e w' => e = .returned (.bool true) ∧ Kp [] w w' := by
  have HL := Lib.hid hL
  have HR := Lib.hid hr
  have hrf := fun W => refPath_all l.length 0 l.length i W (Nat.le_refl _) (by omega) (by omega) (Nat.zero_le _) (by omega)
  rw [Nat.zero_add] at hrf
  have hrt := rpath_roots l l.length 0 l.length i (Nat.le_refl _) (by omega) (by omega) (by omega) (Nat.zero_le _) (by omega)
  rw [List.drop_zero, List.take_length, Nat.sub_zero] at hrt
  have hok := rpath_ok l.length 0 l.length i (by omega) (by omega)
  have hpl := rpath_length l.length 0 l.length i (by omega) (by omega)
  obtain ⟨ps, hps⟩ : ∃ ps, ps = rpath l.length 0 l.length i := ⟨_, rfl⟩
  rw [← hps] at hrf hrt hok hpl
  have hrt' : rootsH l ps = pathH l i := hrt
  have HRF := Lib.hid hrf
  have HRT := Lib.hid hrt'
  have HOK := Lib.hid hok
  have h0 : ¬ (i : Int) < 0 := by omega
  have h1 : (i : Int) < (l.length : Int) := by omega
  clear hL hr hrf hrt hrt' hok hps
  go_enter Tryd.func4, Tryd.ntmps4
  go_wp2_with fail
  refine (path_any l a c i _ HR.out (by omega) hi HL.out h2).mono ?_
  rintro e w1 ⟨v, rfl, a1, c1, rfl, o1, f1, k1⟩
  have O1 := Lib.hid (own_rd o1)
  have K1 := Lib.hid k1
  clear o1 f1 k1
  go_wp2_with fail
  refine (HRF.out _).mono ?_
  rintro e w2 ⟨v, rfl, a2, c2, rfl, o2, f2, k2⟩
  have O2 := Lib.hid (own_rd o2)
  have K2 := Lib.hid (K1.out.trans k2 (by simp))
  have K12 := Lib.hid k2
  clear o2 f2 k2
  go_wp2_with fail
  refine (roots_any l a c ps a2 c2 _ (HR.out.below K2.out) O2.out (fun p hp => by have := HOK.out p hp; omega) (by omega) (by omega) (HL.out.below K2.out) (Nat.le_trans h2 K2.out.size)).mono ?_
  rw [HRT.out]
  rintro e w3 ⟨v, rfl, a3, c3, rfl, o3, f3, k3⟩
  have O3 := Lib.hid (own_rd o3)
  have K3 := Lib.hid (K2.out.trans k3 (by simp))
  have K13 := Lib.hid (K12.out.trans k3 (by simp))
  clear o3 f3 k3
  go_wp2_with fail
  refine (same_any (pathH l i) a1 a3 c1 c3 _ (O1.out.below K13.out) O3.out).mono ?_
  rintro e w4 ⟨rfl, k4⟩
  have K4 := Lib.hid (K3.out.trans k4 (by simp))
  clear k4
  go_wp2_with fail
  refine (awake7_any _ (HL.out.below K4.out) (Nat.le_trans h2 K4.out.size)).mono ?_
  rintro e w5 ⟨rfl, k5⟩
  have K5 := Lib.hid (K4.out.trans k5 (by simp))
  clear k5
  go_wp2
  go_ret
  exact ⟨rfl, K5.out⟩

theorem walk (l : List Hsh) (a : Option Addr) (c : Nat) (i : Int) (w : World) (hr : Rd w a l.length c 32 (hsc l)) (hL : Laid w) (h2 : 2 ≤ w.heap.size) :
    Calls Tryd.prog 4 #[.slice a l.length c, .int .i64 i] w fun e w' => e = .returned (.bool true) ∧ Kp [] w w' := by
  by_cases hl : l.length ≤ 70
  · by_cases hi : i < 0 ∨ (l.length : Int) ≤ i
    · exact walk_bad l a c i w hl hi hL h2
    · obtain ⟨n, rfl⟩ : ∃ n : Nat, i = n := ⟨i.toNat, by omega⟩
      exact walk_good l a c n w hr hl (by omega) hL h2
  · exact walk_big l a c i w (by omega) (by have := hr.le; have := hr.max; unfold maxLen at this; omega) hL h2

set_option maxRecDepth 100000 in
theorem lifted (os : Os) (started : os.Started) (H : Type) (enc : TypeId × Value → H) :
    ReturnsInHanded {} Tryd.checked os 4 .any (fun w args => (Rows.merklePathsSpec.pre enc Tryd.prog Tryd.f4 [] false w args ∧ laidMetH Tryd.prog laidL w) ∧ sizedMet enc Tryd.prog Tryd.f4 (OpenSpec.ofChange Rows.merklePathsSpec) false w args)
      (Rows.merklePathsSpec.post enc Tryd.prog Tryd.f4 false true false false) := by
  refine returnsInHanded_of_change_and (C := Tryd.checked) (X := fun w _ => laidMetH Tryd.prog laidL w) (fun _ _ _ hh h => h.of_heap hh) own started (by kernel_rfl) Tryd.func4
    (ChangeSpec.witness_shaped (enc := enc) (C := Tryd.checked) (os := os) (X := fun w _ => laidMetH Tryd.prog laidL w) false (World.doorLaid Tryd.prog 400 os) #[.slice none 0 0, .int .i64 0] 8 rfl (World.shaped_of_RefB (by kernel_rfl) (by kernel_rfl)) (by kernel_rfl) (by kernel_rfl) (by kernel_rfl) (door_met os _)) ?_
  intro W base args ds gs before hval0 hW _ _ hL _
  have hval : ∀ (j : Nat) t v, Tryd.f4.params[j]? = some t → args[j]? = some v → Value.okWide Tryd.prog W .any base t v := hval0
  have hW' := hW
  obtain ⟨p, q, hA0, hV, rfl, hfz, hnd⟩ := hW
  have hA : DataW.TrodAll enc Tryd.prog W 0 (fun _ => true) true Tryd.f4.params.toList args.toList ds p := hA0
  rw [Tryd.params4] at hA hval
  obtain ⟨v0, vs0, d0, ds0, p0, q0, hargs, rfl, rfl, h0, tr0⟩ := trodAll_cons hA
  obtain ⟨v1, vs1, d1, ds1, p1, q1, rfl, rfl, rfl, h1, tr1⟩ := trodAll_cons tr0
  obtain ⟨rfl, rfl, rfl⟩ := trodAll_nil tr1
  obtain rfl : args = #[v0, v1] := by cases args; simp_all
  obtain ⟨rfl, rfl⟩ := trodVars_none hV
  obtain ⟨aa0, nn0, cc0, rfl⟩ := okWide_slice Tryd.underlying25 (hval 0 25 v0 rfl rfl)
  obtain ⟨a0, c0, l0, hc0, r0⟩ := reads_hashes Tryd.underlying25 Tryd.underlying38 Tryd.underlying5 (by kernel_rfl) (by kernel_rfl) (reads_arg h0)
  simp only [Value.cells, List.cons.injEq, Value.slice.injEq, and_true] at hc0
  obtain ⟨rfl, rfl, rfl⟩ := hc0
  obtain ⟨a1, rfl, rfl, rfl, w1⟩ := open_int Tryd.underlying3 (hval 1 3 v1 rfl rfl) h1
  have m1 : -9223372036854775808 ≤ a1 ∧ a1 ≤ 9223372036854775807 := by have h := w1; simp [Lit.wf] at h; exact ⟨by have := h.1; rw [show IntKind.i64.min = -9223372036854775808 from rfl] at this; exact this, h.2⟩
  obtain ⟨hLw, h2w⟩ := of_laid hL
  refine (walk l0 _ _ a1 W r0 hLw h2w).mono fun e W' ⟨he, hg⟩ => ?_
  subst he
  exact ⟨_, rfl, law_post laidOut readable rfl Tryd.underlying4 rfl hW' rfl rfl rfl hg⟩

theorem over : Rows.MerklePathsSaid :=
  OpenClaim.holds_of_wide 4 Tryd.f4 rfl rfl rfl rfl rfl rfl rfl ⟨rfl, rfl, rfl, rfl, rfl⟩ rfl rfl rfl rfl rfl (by kernel_rfl) Tryd.func4 (by kernel_rfl)
    (of_decide_eq_true (by kernel_rfl)) (by unfold Func.isWrapper; rw [if_neg (by decide +kernel)]; exact ⟨rfl, rfl⟩)
    (fun os started H enc _ => lifted os started H enc)

theorem proved : Rows.MerklePathsCardSaid :=
  Claim7.holds_tied_plain_at .later [] [.data, .data] true (true, "ccdb04746241078eb1d7e4e9e80e33161d1e694d2b1da2ba8b10f0c43722e414") false
    over (fun _ h => by cases h) (by kernel_rfl) (fun _ h => by cases h) merklePaths_row_tie rfl ⟨rfl, rfl⟩ (by kernel_rfl) rfl
    (fun f fn hf hfn => by
      obtain rfl : f = 4 := Option.some.inj ((show Tryd.prog.funcNamed "syngraph/syngraphlaw07.MerklePaths" = some 4 by kernel_rfl).symm.trans hf) |>.symm
      obtain rfl : fn = Tryd.f4 := (Option.some.inj (Tryd.func4.symm.trans hfn)).symm
      exact ⟨by kernel_rfl, fun j t ht => by
        have hm := Array.mem_of_getElem? ht
        rw [Tryd.params4] at hm
        simp only [List.mem_toArray, List.mem_cons, List.not_mem_nil, or_false] at hm
        rcases hm with rfl | rfl
        · exact (show Tryd.prog.wantsStandIn 25 = false by kernel_rfl)
        · exact (show Tryd.prog.wantsStandIn 3 = false by kernel_rfl)⟩)
    (by kernel_rfl)
end Go.Proofs.YtkjdnpalafldhaaDoor.merklePaths
