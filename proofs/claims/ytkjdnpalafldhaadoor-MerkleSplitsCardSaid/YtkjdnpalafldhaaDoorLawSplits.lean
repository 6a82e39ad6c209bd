/-
  MerkleSplits: any number is parted as the document says.
-/
import Derived.Test.YtkjdnpalafldhaaDoorAwake7
import Derived.Test.YtkjdnpalafldhaaDoorDoor
import Derived.Test.YtkjdnpalafldhaaDoorTie
import Derived.Test.YtkjdnpalafldhaaDoorCards
namespace Go.Proofs.YtkjdnpalafldhaaDoor.merkleSplits
open Go.ChangeShapes Go.WideShapes Go.ChangeAt Go.RowKit Go.Proofs.YtkjdnpalafldhaaDoor

theorem readable : ∀ t ∈ Tryd.f3.params.toList, Tryd.prog.readableRec t = true ∧ t < Tryd.prog.types.size := by
  rw [Tryd.params3]
  intro t ht
  simp only [List.mem_cons, List.not_mem_nil, or_false] at ht
  rcases ht with rfl; exact ⟨by kernel_rfl, of_decide_eq_true (by kernel_rfl)⟩

theorem pow_and : ∀ j, j < 63 → bits .and .i64 ((2 ^ j : Nat) : Int) (((2 ^ j : Nat) : Int) - 1) = 0 := by decide +kernel

theorem walk (n : Int) (w : World) (hL : Laid w) (h2 : 2 ≤ w.heap.size) (hn : n ≤ 9223372036854775807) :
    Calls Tryd.prog 3 #[.int .i64 n] w fun e w' => e = .returned (.bool true) ∧ Kp [] w w' := by
  by_cases h : n < 2
  · go_enter Tryd.func3, Tryd.ntmps3
    go_wp2_with fail
    refine (split_lt n _ h).mono ?_
    rintro e w1 ⟨rfl, rfl⟩
    go_wp2_with fail
    refine (awake7_any _ hL h2).mono ?_
    rintro e w2 ⟨rfl, k2⟩
    have K2 := Lib.hid k2
    clear k2
    go_wp2
    go_ret
    exact ⟨rfl, K2.out⟩
  · obtain ⟨N, rfl⟩ : ∃ N : Nat, n = N := ⟨n.toNat, by omega⟩
    obtain ⟨h3, h4, h5, h6, h7⟩ := sp_spec N (by omega) (by omega)
    have hz : bits .and .i64 ((sp N : Nat) : Int) ((sp N : Nat) - 1) = 0 := pow_and _ (by omega)
    have hc := split_any N w (by omega) (by omega)
    obtain ⟨k, hk⟩ : ∃ k, k = sp N := ⟨_, rfl⟩
    rw [← hk] at h5 h6 h7 hz hc
    have HC := Lib.hid hc
    have h8 : (1 : Int) ≤ k := by omega
    have h9 : (k : Int) < N := by omega
    have h10 : (N : Int) - k ≤ k := by omega
    have h11 : ¬ (N : Int) < 2 := by omega
    have e1 : IntKind.i64.wrap ((k : Int) - 1) = k - 1 := IntWalk.i64_in _ (by omega)
    have e2 : IntKind.i64.wrap ((N : Int) - k) = N - k := IntWalk.i64_in _ (by omega)
    clear hk hc h3 h4 h5 h6 h7 h
    go_enter Tryd.func3, Tryd.ntmps3
    go_wp2_with fail
    refine HC.out.mono ?_
    rintro e w1 ⟨rfl, rfl⟩
    go_wp2_with fail
    refine (awake7_any _ hL h2).mono ?_
    rintro e w2 ⟨rfl, k2⟩
    have K2 := Lib.hid k2
    clear k2
    go_wp2
    go_ret
    exact ⟨rfl, K2.out⟩

set_option maxRecDepth 100000 in
theorem lifted (os : Os) (started : os.Started) (H : Type) (enc : TypeId × Value → H) :
    ReturnsInHanded {} Tryd.checked os 3 .any (fun w args => (Rows.merkleSplitsSpec.pre enc Tryd.prog Tryd.f3 [] false w args ∧ laidMetH Tryd.prog laidL w) ∧ sizedMet enc Tryd.prog Tryd.f3 (OpenSpec.ofChange Rows.merkleSplitsSpec) false w args)
      (Rows.merkleSplitsSpec.post enc Tryd.prog Tryd.f3 false true false false) := by
  refine returnsInHanded_of_change_and (C := Tryd.checked) (X := fun w _ => laidMetH Tryd.prog laidL w) (fun _ _ _ hh h => h.of_heap hh) own started (by kernel_rfl) Tryd.func3
    (ChangeSpec.witness_shaped (enc := enc) (C := Tryd.checked) (os := os) (X := fun w _ => laidMetH Tryd.prog laidL w) false (World.doorLaid Tryd.prog 400 os) #[.int .i64 0] 8 rfl (World.shaped_of_RefB (by kernel_rfl) (by kernel_rfl)) (by kernel_rfl) (by kernel_rfl) (by kernel_rfl) (door_met os _)) ?_
  intro W base args ds gs before hval0 hW _ _ hL _
  have hval : ∀ (j : Nat) t v, Tryd.f3.params[j]? = some t → args[j]? = some v → Value.okWide Tryd.prog W .any base t v := hval0
  have hW' := hW
  obtain ⟨p, q, hA0, hV, rfl, hfz, hnd⟩ := hW
  have hA : DataW.TrodAll enc Tryd.prog W 0 (fun _ => true) true Tryd.f3.params.toList args.toList ds p := hA0
  rw [Tryd.params3] at hA hval
  obtain ⟨v0, vs0, d0, ds0, p0, q0, hargs, rfl, rfl, h0, r0⟩ := trodAll_cons hA
  obtain ⟨rfl, rfl, rfl⟩ := trodAll_nil r0
  obtain rfl : args = #[v0] := by cases args; simp_all
  obtain ⟨rfl, rfl⟩ := trodVars_none hV
  obtain ⟨a0, rfl, rfl, rfl, w0⟩ := open_int Tryd.underlying3 (hval 0 3 v0 rfl rfl) h0
  obtain ⟨hLw, h2w⟩ := of_laid hL
  have hmax : a0 ≤ 9223372036854775807 := by
    have := w0; simp [Lit.wf] at this; exact this.2
  refine (walk a0 W hLw h2w hmax).mono fun e W' ⟨he, hg⟩ => ?_
  subst he
  exact ⟨_, rfl, law_post laidOut readable rfl Tryd.underlying4 rfl hW' rfl rfl rfl hg⟩

theorem over : Rows.MerkleSplitsSaid :=
  OpenClaim.holds_of_wide 3 Tryd.f3 rfl rfl rfl rfl rfl rfl rfl ⟨rfl, rfl, rfl, rfl, rfl⟩ rfl rfl rfl rfl rfl (by kernel_rfl) Tryd.func3 (by kernel_rfl)
    (of_decide_eq_true (by kernel_rfl)) (by unfold Func.isWrapper; rw [if_neg (by decide +kernel)]; exact ⟨rfl, rfl⟩)
    (fun os started H enc _ => lifted os started H enc)

theorem proved : Rows.MerkleSplitsCardSaid :=
  Claim7.holds_tied_plain_at .later [] [.data, .data] true (true, "ccdb04746241078eb1d7e4e9e80e33161d1e694d2b1da2ba8b10f0c43722e414") false
    over (fun _ h => by cases h) (by kernel_rfl) (fun _ h => by cases h) merkleSplits_row_tie rfl ⟨rfl, rfl⟩ (by kernel_rfl) rfl
    (fun f fn hf hfn => by
      obtain rfl : f = 3 := Option.some.inj ((show Tryd.prog.funcNamed "syngraph/syngraphlaw07.MerkleSplits" = some 3 by kernel_rfl).symm.trans hf) |>.symm
      obtain rfl : fn = Tryd.f3 := (Option.some.inj (Tryd.func3.symm.trans hfn)).symm
      exact ⟨by kernel_rfl, fun j t ht => by
        have hm := Array.mem_of_getElem? ht
        rw [Tryd.params3] at hm
        simp only [List.mem_toArray, List.mem_cons, List.not_mem_nil, or_false] at hm
        rcases hm with rfl; exact (show Tryd.prog.wantsStandIn 3 = false by kernel_rfl)⟩)
    (by kernel_rfl)
end Go.Proofs.YtkjdnpalafldhaaDoor.merkleSplits
