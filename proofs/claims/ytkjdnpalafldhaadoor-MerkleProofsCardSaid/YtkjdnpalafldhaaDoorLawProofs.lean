/-
  MerkleProofs: any list has, for any of its beginnings, the proof that the document says.
-/
import Derived.Test.YtkjdnpalafldhaaDoorRoots7
import Derived.Test.YtkjdnpalafldhaaDoorRefg
import Derived.Test.YtkjdnpalafldhaaDoorSame
import Derived.Test.YtkjdnpalafldhaaDoorAwake7
import Derived.Test.YtkjdnpalafldhaaDoorDoor
import Derived.Test.YtkjdnpalafldhaaDoorTie
import Derived.Test.YtkjdnpalafldhaaDoorCards
namespace Go.Proofs.YtkjdnpalafldhaaDoor.merkleProofs
open Go.ChangeShapes Go.WideShapes Go.ChangeAt Go.RowKit Go.Proofs.YtkjdnpalafldhaaDoor

theorem readable : ∀ t ∈ Tryd.f7.params.toList, Tryd.prog.readableRec t = true ∧ t < Tryd.prog.types.size := by
  rw [Tryd.params7]
  intro t ht
  simp only [List.mem_cons, List.not_mem_nil, or_false] at ht
  rcases ht with rfl | rfl <;> exact ⟨by kernel_rfl, of_decide_eq_true (by kernel_rfl)⟩

theorem walk_big (l : List Hsh) (a : Option Addr) (c : Nat) (i : Int) (w : World) (hl : 70 < l.length) (hl2 : l.length ≤ 9223372036854775807) (hL : Laid w) (h2 : 2 ≤ w.heap.size) :
    Calls Tryd.prog 7 #[.slice a l.length c, .int .i64 i] w fun e w' => e = .returned (.bool true) ∧ Kp [] w w' := by
  have HL := Lib.hid hL
  clear hL
  go_enter Tryd.func7, Tryd.ntmps7
  go_wp2_with fail
  refine (awake7_any _ HL.out h2).mono ?_
  rintro e w2 ⟨rfl, k2⟩
  have K2 := Lib.hid k2
  clear k2
  go_wp2
  go_ret
  exact ⟨rfl, K2.out⟩

theorem walk_bad (l : List Hsh) (a : Option Addr) (c : Nat) (i : Int) (w : World) (hl : l.length ≤ 70) (hi : i < 0 ∨ (l.length : Int) < i) (hL : Laid w) (h2 : 2 ≤ w.heap.size) :
    Calls Tryd.prog 7 #[.slice a l.length c, .int .i64 i] w fun e w' => e = .returned (.bool true) ∧ Kp [] w w' := by
  have HL := Lib.hid hL
  have HP := Lib.hid (fun W => proof_bad l a c i W hi)
  have hi' : i < 0 ∨ (¬ i < 0 ∧ ((l.length : Int) < i)) := by omega
  clear hL hi
  rcases hi' with hi | ⟨h0, hi⟩
  all_goals
    go_enter Tryd.func7, Tryd.ntmps7
    go_wp2_with fail
    refine (HP.out _).mono ?_
    rintro e w1 ⟨rfl, rfl⟩
    go_wp2_with fail
    refine (awake7_any _ HL.out h2).mono ?_
    rintro e w2 ⟨rfl, k2⟩
    have K2 := Lib.hid k2
    clear k2
    go_wp2
    go_ret
    exact ⟨rfl, K2.out⟩

theorem walk_none (l : List Hsh) (a : Option Addr) (c : Nat) (w : World) (hl : l.length ≤ 70) (hL : Laid w) (h2 : 2 ≤ w.heap.size) :
    Calls Tryd.prog 7 #[.slice a l.length c, .int .i64 0] w fun e w' => e = .returned (.bool true) ∧ Kp [] w w' := by
  have HL := Lib.hid hL
  have HP := Lib.hid (fun W => proof_ends l a c 0 W (.inl rfl))
  have h0 : (0 : Int) ≤ (l.length : Int) := by omega
  clear hL
  go_enter Tryd.func7, Tryd.ntmps7
  go_wp2_with fail
  refine (HP.out _).mono ?_
  rintro e w1 ⟨rfl, rfl⟩
  go_wp2_with fail
  refine (awake7_any _ HL.out h2).mono ?_
  rintro e w2 ⟨rfl, k2⟩
  have K2 := Lib.hid k2
  clear k2
  go_wp2
  go_ret
  exact ⟨rfl, K2.out⟩

theorem walk_good (l : List Hsh) (a : Option Addr) (c : Nat) (i : Nat) (w : World) (hr : Rd w a l.length c 32 (hsc l)) (hl : l.length ≤ 70) (hi0 : 1 ≤ i) (hi : i ≤ l.length) (hL : Laid w) (h2 : 2 ≤ w.heap.size) :
    Calls Tryd.prog 7 #[.slice a l.length c, .int .i64 i] w fun e w' => e = .returned (.bool true) ∧ Kp [] w w' := by
  have HL := Lib.hid hL
  have HR := Lib.hid hr
  have hrf := fun W => refSub_all l.length 0 l.length i true W (Nat.le_refl _) hi0 hi (by omega)
  rw [Nat.zero_add] at hrf
  have hrt := rsub_roots l l.length 0 l.length i true (Nat.le_refl _) (by omega) hi0 hi (by omega)
  rw [List.drop_zero, List.take_length] at hrt
  have hok := rsub_ok l.length 0 l.length i true (by omega) hi0 hi
  have hpl := rsub_length l.length 0 l.length i true (by omega) hi0 hi
  obtain ⟨ps, hps⟩ : ∃ ps, ps = rsub l.length 0 l.length i true := ⟨_, rfl⟩
  rw [← hps] at hrf hrt hok hpl
  obtain ⟨pf, hpf⟩ : ∃ pf, pf = proofH l i := ⟨_, rfl⟩
  have hrt' : rootsH l ps = pf := by rw [hpf]; exact hrt
  have hcall : ∀ W, Kp [] w W → Calls Tryd.prog 26 #[.slice a l.length c, .int .i64 i] W fun e w' => ∃ a1 c1, e = .returned (.tuple #[.slice a1 pf.length c1, .int .i64 0]) ∧ Rd w' a1 pf.length c1 32 (hsc pf) ∧ Kp [] W w' := by
    intro W k
    by_cases hn : i = l.length
    · have hz : pf = [] := by rw [hpf]; unfold proofH; rw [besQ_end _ _ _ (by omega) (by omega)]; rfl
      rw [hz]
      refine (proof_ends l a c i W (.inr hn)).mono ?_
      rintro e w1 ⟨rfl, rfl⟩
      exact ⟨none, 0, rfl, nil_rd _ _, Kp.refl _ _⟩
    · refine (proof_any l a c i W (hr.below k) (by omega) hi0 (by omega) (hL.below k) (Nat.le_trans h2 k.size)).mono ?_
      rintro e w1 ⟨v, rfl, a1, c1, rfl, o1, f1, k1⟩
      rw [← hpf] at o1 ⊢
      exact ⟨a1, c1, rfl, own_rd o1, k1⟩
  have HC := Lib.hid hcall
  have HRF := Lib.hid hrf
  have HRT := Lib.hid hrt'
  have HOK := Lib.hid hok
  have h0 : ¬ (i : Int) < 0 := by omega
  have h1 : (i : Int) ≤ (l.length : Int) := by omega
  have h3 : ((i : Int) == 0) = false := by simp; omega
  clear hL hr hrf hrt hrt' hok hps hcall hpf
  go_enter Tryd.func7, Tryd.ntmps7
  go_wp2_with fail
  refine (HC.out _ (Kp.refl [] w)).mono ?_
  rintro e w1 ⟨a1, c1, rfl, o1, k1⟩
  have O1 := Lib.hid o1
  have K1 := Lib.hid k1
  clear o1 k1
  go_wp2_with fail
  refine (HRF.out _).mono ?_
  rintro e w2 ⟨v, rfl, a2, c2, rfl, o2, f2, k2⟩
  have O2 := Lib.hid (own_rd o2)
  have K2 := Lib.hid (K1.out.trans k2 (by simp))
  have K12 := Lib.hid k2
  clear o2 f2 k2
  go_wp2_with fail
  refine (roots_any l a c ps a2 c2 _ (HR.out.below K2.out) O2.out (fun p hp => by have := HOK.out p hp; omega) (by omega) (by omega) (HL.out.below K2.out) (Nat.le_trans h2 K2.out.size)).mono ?_
  rw [HRT.out]
  rintro e w3 ⟨v, rfl, a3, c3, rfl, o3, f3, k3⟩
  have O3 := Lib.hid (own_rd o3)
  have K3 := Lib.hid (K2.out.trans k3 (by simp))
  have K13 := Lib.hid (K12.out.trans k3 (by simp))
  clear o3 f3 k3
  go_wp2_with fail
  refine (same_any pf a1 a3 c1 c3 _ (O1.out.below K13.out) O3.out).mono ?_
  rintro e w4 ⟨rfl, k4⟩
  have K4 := Lib.hid (K3.out.trans k4 (by simp))
  clear k4
  go_wp2_with fail
  refine (awake7_any _ (HL.out.below K4.out) (Nat.le_trans h2 K4.out.size)).mono ?_
  rintro e w5 ⟨rfl, k5⟩
  have K5 := Lib.hid (K4.out.trans k5 (by simp))
  clear k5
  go_wp2
  go_ret
  exact ⟨rfl, K5.out⟩

theorem walk (l : List Hsh) (a : Option Addr) (c : Nat) (i : Int) (w : World) (hr : Rd w a l.length c 32 (hsc l)) (hL : Laid w) (h2 : 2 ≤ w.heap.size) :
    Calls Tryd.prog 7 #[.slice a l.length c, .int .i64 i] w fun e w' => e = .returned (.bool true) ∧ Kp [] w w' := by
  by_cases hl : l.length ≤ 70
  · by_cases hi : i < 0 ∨ (l.length : Int) < i
    · exact walk_bad l a c i w hl hi hL h2
    · by_cases h0 : i = 0
      · subst h0; exact walk_none l a c w hl hL h2
      · obtain ⟨n, rfl⟩ : ∃ n : Nat, i = n := ⟨i.toNat, by omega⟩
        exact walk_good l a c n w hr hl (by omega) (by omega) hL h2
  · exact walk_big l a c i w (by omega) (by have := hr.le; have := hr.max; unfold maxLen at this; omega) hL h2

set_option maxRecDepth 100000 in
theorem lifted (os : Os) (started : os.Started) (H : Type) (enc : TypeId × Value → H) :
    ReturnsInHanded {} Tryd.checked os 7 .any (fun w args => (Rows.merkleProofsSpec.pre enc Tryd.prog Tryd.f7 [] false w args ∧ laidMetH Tryd.prog laidL w) ∧ sizedMet enc Tryd.prog Tryd.f7 (OpenSpec.ofChange Rows.merkleProofsSpec) false w args)
      (Rows.merkleProofsSpec.post enc Tryd.prog Tryd.f7 false true false false) := by
  refine returnsInHanded_of_change_and (C := Tryd.checked) (X := fun w _ => laidMetH Tryd.prog laidL w) (fun _ _ _ hh h => h.of_heap hh) own started (by kernel_rfl) Tryd.func7
    (ChangeSpec.witness_shaped (enc := enc) (C := Tryd.checked) (os := os) (X := fun w _ => laidMetH Tryd.prog laidL w) false (World.doorLaid Tryd.prog 400 os) #[.slice none 0 0, .int .i64 0] 8 rfl (World.shaped_of_RefB (by kernel_rfl) (by kernel_rfl)) (by kernel_rfl) (by kernel_rfl) (by kernel_rfl) (door_met os _)) ?_
  intro W base args ds gs before hval0 hW _ _ hL _
  have hval : ∀ (j : Nat) t v, Tryd.f7.params[j]? = some t → args[j]? = some v → Value.okWide Tryd.prog W .any base t v := hval0
  have hW' := hW
  obtain ⟨p, q, hA0, hV, rfl, hfz, hnd⟩ := hW
  have hA : DataW.TrodAll enc Tryd.prog W 0 (fun _ => true) true Tryd.f7.params.toList args.toList ds p := hA0
  rw [Tryd.params7] at hA hval
  obtain ⟨v0, vs0, d0, ds0, p0, q0, hargs, rfl, rfl, h0, tr0⟩ := trodAll_cons hA
  obtain ⟨v1, vs1, d1, ds1, p1, q1, rfl, rfl, rfl, h1, tr1⟩ := trodAll_cons tr0
  obtain ⟨rfl, rfl, rfl⟩ := trodAll_nil tr1
  obtain rfl : args = #[v0, v1] := by cases args; simp_all
  obtain ⟨rfl, rfl⟩ := trodVars_none hV
  obtain ⟨aa0, nn0, cc0, rfl⟩ := okWide_slice Tryd.underlying25 (hval 0 25 v0 rfl rfl)
  obtain ⟨a0, c0, l0, hc0, r0⟩ := reads_hashes Tryd.underlying25 Tryd.underlying38 Tryd.underlying5 (by kernel_rfl) (by kernel_rfl) (reads_arg h0)
  simp only [Value.cells, List.cons.injEq, Value.slice.injEq, and_true] at hc0
  obtain ⟨rfl, rfl, rfl⟩ := hc0
  obtain ⟨a1, rfl, rfl, rfl, w1⟩ := open_int Tryd.underlying3 (hval 1 3 v1 rfl rfl) h1
  have m1 : -9223372036854775808 ≤ a1 ∧ a1 ≤ 9223372036854775807 := by have h := w1; simp [Lit.wf] at h; exact ⟨by have := h.1; rw [show IntKind.i64.min = -9223372036854775808 from rfl] at this; exact this, h.2⟩
  obtain ⟨hLw, h2w⟩ := of_laid hL
  refine (walk l0 _ _ a1 W r0 hLw h2w).mono fun e W' ⟨he, hg⟩ => ?_
  subst he
  exact ⟨_, rfl, law_post laidOut readable rfl Tryd.underlying4 rfl hW' rfl rfl rfl hg⟩

theorem over : Rows.MerkleProofsSaid :=
  OpenClaim.holds_of_wide 7 Tryd.f7 rfl rfl rfl rfl rfl rfl rfl ⟨rfl, rfl, rfl, rfl, rfl⟩ rfl rfl rfl rfl rfl (by kernel_rfl) Tryd.func7 (by kernel_rfl)
    (of_decide_eq_true (by kernel_rfl)) (by unfold Func.isWrapper; rw [if_neg (by decide +kernel)]; exact ⟨rfl, rfl⟩)
    (fun os started H enc _ => lifted os started H enc)

theorem proved : Rows.MerkleProofsCardSaid :=
  Claim7.holds_tied_plain_at .later [] [.data, .data] true (true, "ccdb04746241078eb1d7e4e9e80e33161d1e694d2b1da2ba8b10f0c43722e414") false
    over (fun _ h => by cases h) (by kernel_rfl) (fun _ h => by cases h) merkleProofs_row_tie rfl ⟨rfl, rfl⟩ (by kernel_rfl) rfl
    (fun f fn hf hfn => by
      obtain rfl : f = 7 := Option.some.inj ((show Tryd.prog.funcNamed "syngraph/syngraphlaw07.MerkleProofs" = some 7 by kernel_rfl).symm.trans hf) |>.symm
      obtain rfl : fn = Tryd.f7 := (Option.some.inj (Tryd.func7.symm.trans hfn)).symm
      exact ⟨by kernel_rfl, fun j t ht => by
        have hm := Array.mem_of_getElem? ht
        rw [Tryd.params7] at hm
        simp only [List.mem_toArray, List.mem_cons, List.not_mem_nil, or_false] at hm
        rcases hm with rfl | rfl
        · exact (show Tryd.prog.wantsStandIn 25 = false by kernel_rfl)
        · exact (show Tryd.prog.wantsStandIn 3 = false by kernel_rfl)⟩)
    (by kernel_rfl)
end Go.Proofs.YtkjdnpalafldhaaDoor.merkleProofs
