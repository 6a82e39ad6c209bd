/-
  ProofLeads: any path leads, for any leaf's place, to the root that the document says, or is refused.
-/
import Derived.Test.YtkjdnpalafldhaaDoorLeadsA
import Derived.Test.YtkjdnpalafldhaaDoorLeadsB
import Derived.Test.YtkjdnpalafldhaaDoorLeadsC
import Derived.Test.YtkjdnpalafldhaaDoorAwake8
import Derived.Test.YtkjdnpalafldhaaDoorDoor
import Derived.Test.YtkjdnpalafldhaaDoorTie
import Derived.Test.YtkjdnpalafldhaaDoorCards
namespace Go.Proofs.YtkjdnpalafldhaaDoor.proofLeads
open Go.ChangeShapes Go.WideShapes Go.ChangeAt Go.RowKit Go.Proofs.YtkjdnpalafldhaaDoor

theorem readable : ∀ t ∈ Tryd.f8.params.toList, Tryd.prog.readableRec t = true ∧ t < Tryd.prog.types.size := by
  rw [Tryd.params8]
  intro t ht
  simp only [List.mem_cons, List.not_mem_nil, or_false] at ht
  rcases ht with rfl | rfl <;> exact ⟨by kernel_rfl, of_decide_eq_true (by kernel_rfl)⟩

theorem walk (leaf : Hsh) (I N : Int) (a : Option Addr) (c : Nat) (l : List Hsh) (root : Hsh) (w : World) (hr : Rd w a l.length c 32 (hsc l)) (hL : Laid w) (h2 : 2 ≤ w.heap.size) :
    Calls Tryd.prog 8 #[hv leaf, .agg (plA I N a l.length c root)] w fun e w' => e = .returned (.bool true) ∧ Kp [] w w' := by
  by_cases hb : 80 < l.length ∨ 1152921504606846976 < N
  · exact walk_big leaf I N a c l root w hb hL h2
  · by_cases hi : I < 0 ∨ N ≤ I
    · exact walk_bad leaf I N a c l root w (by omega) (by omega) hi hL h2
    · obtain ⟨i, rfl⟩ : ∃ i : Nat, I = i := ⟨I.toNat, by omega⟩
      obtain ⟨n, rfl⟩ : ∃ n : Nat, N = n := ⟨N.toNat, by omega⟩
      by_cases hk : l.length = (sideL i (n - 1)).length
      · exact walk_eq leaf i n a c l root w hr (by omega) (by omega) (by omega) hk hL h2
      · exact walk_ne leaf i n a c l root w hr (by omega) (by omega) (by omega) hk hL h2

set_option maxRecDepth 100000 in
theorem lifted (os : Os) (started : os.Started) (H : Type) (enc : TypeId × Value → H) :
    ReturnsInHanded {} Tryd.checked os 8 .any (fun w args => (Rows.proofLeadsSpec.pre enc Tryd.prog Tryd.f8 [] false w args ∧ laidMetH Tryd.prog laidL w) ∧ sizedMet enc Tryd.prog Tryd.f8 (OpenSpec.ofChange Rows.proofLeadsSpec) false w args)
      (Rows.proofLeadsSpec.post enc Tryd.prog Tryd.f8 false true false false) := by
  refine returnsInHanded_of_change_and (C := Tryd.checked) (X := fun w _ => laidMetH Tryd.prog laidL w) (fun _ _ _ hh h => h.of_heap hh) own started (by kernel_rfl) Tryd.func8
    (ChangeSpec.witness_shaped (enc := enc) (C := Tryd.checked) (os := os) (X := fun w _ => laidMetH Tryd.prog laidL w) false (World.doorLaid Tryd.prog 400 os) #[hv zeroH, .agg (plA 0 0 none 0 0 zeroH)] 8 rfl (World.shaped_of_RefB (by kernel_rfl) (by kernel_rfl)) (by kernel_rfl) (by kernel_rfl) (by kernel_rfl) (door_met os _)) ?_
  intro W base args ds gs before hval0 hW _ _ hL _
  have hval : ∀ (j : Nat) t v, Tryd.f8.params[j]? = some t → args[j]? = some v → Value.okWide Tryd.prog W .any base t v := hval0
  have hW' := hW
  obtain ⟨p, q, hA0, hV, rfl, hfz, hnd⟩ := hW
  have hA : DataW.TrodAll enc Tryd.prog W 0 (fun _ => true) true Tryd.f8.params.toList args.toList ds p := hA0
  rw [Tryd.params8] at hA hval
  obtain ⟨v0, vs0, d0, ds0, p0, q0, hargs, rfl, rfl, h0, tr0⟩ := trodAll_cons hA
  obtain ⟨v1, vs1, d1, ds1, p1, q1, rfl, rfl, rfl, h1, tr1⟩ := trodAll_cons tr0
  obtain ⟨rfl, rfl, rfl⟩ := trodAll_nil tr1
  obtain rfl : args = #[v0, v1] := by cases args; simp_all
  obtain ⟨rfl, rfl⟩ := trodVars_none hV
  obtain ⟨q0a, rfl⟩ := okWide_arr Tryd.underlying38 (hval 0 38 v0 rfl rfl)
  obtain ⟨l0, hc0⟩ := reads_hash Tryd.underlying38 Tryd.underlying5 (by kernel_rfl) (by kernel_rfl) (reads_arg h0)
  obtain rfl : q0a = hvA l0 := by rw [hvA, ← hc0]; rfl
  obtain ⟨q1a, rfl, _⟩ := okWide_struct Tryd.underlying47 (hval 1 47 v1 rfl rfl)
  obtain ⟨I1, N1, a1, c1, l1, t1, hc1, bI1, bN1, r1⟩ := reads_place (reads_arg h1)
  obtain rfl : q1a = plA I1 N1 a1 l1.length c1 t1 := by rw [plA, ← hc1]; rfl
  obtain ⟨hLw, h2w⟩ := of_laid hL
  refine (walk l0 I1 N1 a1 c1 l1 t1 W r1 hLw h2w).mono fun e W' ⟨he, hg⟩ => ?_
  subst he
  exact ⟨_, rfl, law_post laidOut readable rfl Tryd.underlying4 rfl hW' rfl rfl rfl hg⟩

theorem over : Rows.ProofLeadsSaid :=
  OpenClaim.holds_of_wide 8 Tryd.f8 rfl rfl rfl rfl rfl rfl rfl ⟨rfl, rfl, rfl, rfl, rfl⟩ rfl rfl rfl rfl rfl (by kernel_rfl) Tryd.func8 (by kernel_rfl)
    (of_decide_eq_true (by kernel_rfl)) (by unfold Func.isWrapper; rw [if_neg (by decide +kernel)]; exact ⟨rfl, rfl⟩)
    (fun os started H enc _ => lifted os started H enc)

theorem proved : Rows.ProofLeadsCardSaid :=
  Claim7.holds_tied_plain_at .later [] [.data, .data] true (true, "ccdb04746241078eb1d7e4e9e80e33161d1e694d2b1da2ba8b10f0c43722e414") false
    over (fun _ h => by cases h) (by kernel_rfl) (fun _ h => by cases h) proofLeads_row_tie rfl ⟨rfl, rfl⟩ (by kernel_rfl) rfl
    (fun f fn hf hfn => by
      obtain rfl : f = 8 := Option.some.inj ((show Tryd.prog.funcNamed "syngraph/syngraphlaw08.ProofLeads" = some 8 by kernel_rfl).symm.trans hf) |>.symm
      obtain rfl : fn = Tryd.f8 := (Option.some.inj (Tryd.func8.symm.trans hfn)).symm
      exact ⟨by kernel_rfl, fun j t ht => by
        have hm := Array.mem_of_getElem? ht
        rw [Tryd.params8] at hm
        simp only [List.mem_toArray, List.mem_cons, List.not_mem_nil, or_false] at hm
        rcases hm with rfl | rfl
        · exact (show Tryd.prog.wantsStandIn 38 = false by kernel_rfl)
        · exact (show Tryd.prog.wantsStandIn 47 = false by kernel_rfl)⟩)
    (by kernel_rfl)
end Go.Proofs.YtkjdnpalafldhaaDoor.proofLeads
