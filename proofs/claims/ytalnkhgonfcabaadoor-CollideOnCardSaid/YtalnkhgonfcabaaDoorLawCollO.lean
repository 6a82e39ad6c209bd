/-
  CollideOn: whatever list is said to go on from another one, with whatever proof: either it is refused, or it does, or a right collision is told.
-/
import Derived.Test.YtalnkhgonfcabaaDoorCollO
import Derived.Test.YtalnkhgonfcabaaDoorAwake7
import Derived.Test.YtalnkhgonfcabaaDoorDoor
import Derived.Test.YtalnkhgonfcabaaDoorTie
import Derived.Test.YtalnkhgonfcabaaDoorCards
namespace Go.Proofs.YtalnkhgonfcabaaDoor.collideOn
open Go.ChangeShapes Go.WideShapes Go.ChangeAt Go.RowKit Go.Proofs.YtalnkhgonfcabaaDoor

theorem readable : ∀ t ∈ Tryd.f13.params.toList, Tryd.prog.readableRec t = true ∧ t < Tryd.prog.types.size := by
  rw [Tryd.params13]
  intro t ht
  simp only [List.mem_cons, List.not_mem_nil, or_false] at ht
  rcases ht with rfl; exact ⟨by kernel_rfl, of_decide_eq_true (by kernel_rfl)⟩



set_option maxRecDepth 100000 in
theorem lifted (os : Os) (started : os.Started) (H : Type) (enc : TypeId × Value → H) :
    ReturnsInHanded {} Tryd.checked os 13 .any (fun w args => (Rows.collideOnSpec.pre enc Tryd.prog Tryd.f13 [] false w args ∧ laidMetH Tryd.prog laidL w) ∧ sizedMet enc Tryd.prog Tryd.f13 (OpenSpec.ofChange Rows.collideOnSpec) false w args)
      (Rows.collideOnSpec.post enc Tryd.prog Tryd.f13 false true false false) := by
  refine returnsInHanded_of_change_and (C := Tryd.checked) (X := fun w _ => laidMetH Tryd.prog laidL w) (fun _ _ _ hh h => h.of_heap hh) own started (by kernel_rfl) Tryd.func13
    (ChangeSpec.witness_shaped (enc := enc) (C := Tryd.checked) (os := os) (X := fun w _ => laidMetH Tryd.prog laidL w) false (World.doorLaid Tryd.prog 400 os) #[.agg (sgA (grS none 0 0 none 0 0 none 0 0))] 8 rfl (World.shaped_of_RefB (by kernel_rfl) (by kernel_rfl)) (by kernel_rfl) (by kernel_rfl) (by kernel_rfl) (door_met os _)) ?_
  intro W base args ds gs before hval0 hW _ _ hL _
  have hval : ∀ (j : Nat) t v, Tryd.f13.params[j]? = some t → args[j]? = some v → Value.okWide Tryd.prog W .any base t v := hval0
  have hW' := hW
  obtain ⟨p, q, hA0, hV, rfl, hfz, hnd⟩ := hW
  have hA : DataW.TrodAll enc Tryd.prog W 0 (fun _ => true) true Tryd.f13.params.toList args.toList ds p := hA0
  rw [Tryd.params13] at hA hval
  obtain ⟨v0, vs0, d0, ds0, p0, q0, hargs, rfl, rfl, h0, tr0⟩ := trodAll_cons hA
  obtain ⟨rfl, rfl, rfl⟩ := trodAll_nil tr0
  obtain rfl : args = #[v0] := by cases args; simp_all
  obtain ⟨rfl, rfl⟩ := trodVars_none hV
  obtain ⟨q0a, rfl, _⟩ := okWide_struct Tryd.underlying93 (hval 0 93 v0 rfl rfl)
  obtain ⟨va0, ca0, l0, vb0, cb0, r0, vp0, cp0, s0, hc0, rl0, pl0, rr0, pr0, rs0⟩ := reads_growth (reads_arg h0)
  obtain rfl : q0a = sgA (grS va0 l0.length ca0 vb0 r0.length cb0 vp0 s0.length cp0) := by rw [show sgA (grS va0 l0.length ca0 vb0 r0.length cb0 vp0 s0.length cp0) = [.slice va0 l0.length ca0, .slice vb0 r0.length cb0, .slice vp0 s0.length cp0].toArray from rfl, ← hc0]; rfl
  obtain ⟨hLw, h2w⟩ := of_laid hL
  refine (walk l0 r0 s0 _ _ _ _ _ _ W rl0 pl0 rr0 pr0 rs0 hLw h2w).mono fun e W' ⟨he, hg⟩ => ?_
  subst he
  exact ⟨_, rfl, law_post laidOut readable rfl Tryd.underlying4 rfl hW' rfl rfl rfl hg⟩

theorem over : Rows.CollideOnSaid :=
  OpenClaim.holds_of_wide 13 Tryd.f13 rfl rfl rfl rfl rfl rfl rfl ⟨rfl, rfl, rfl, rfl, rfl⟩ rfl rfl rfl rfl rfl (by kernel_rfl) Tryd.func13 (by kernel_rfl)
    (of_decide_eq_true (by kernel_rfl)) (by unfold Func.isWrapper; rw [if_neg (by decide +kernel)]; exact ⟨rfl, rfl⟩)
    (fun os started H enc _ => lifted os started H enc)

theorem proved : Rows.CollideOnCardSaid :=
  Claim7.holds_tied_plain_at .later [] [.data, .data] true (true, "ac86b2faf5102662b28157047f98ddcefbb8a2e19650421389072a010148039d") false
    over (fun _ h => by cases h) (by kernel_rfl) (fun _ h => by cases h) collideOn_row_tie rfl ⟨rfl, rfl⟩ (by kernel_rfl) rfl
    (fun f fn hf hfn => by
      obtain rfl : f = 13 := Option.some.inj ((show Tryd.prog.funcNamed "syngraph/syngraphlaw10.CollideOn" = some 13 by kernel_rfl).symm.trans hf) |>.symm
      obtain rfl : fn = Tryd.f13 := (Option.some.inj (Tryd.func13.symm.trans hfn)).symm
      exact ⟨by kernel_rfl, fun j t ht => by
        have hm := Array.mem_of_getElem? ht
        rw [Tryd.params13] at hm
        simp only [List.mem_toArray, List.mem_cons, List.not_mem_nil, or_false] at hm
        rcases hm with rfl; exact (show Tryd.prog.wantsStandIn 93 = false by kernel_rfl)⟩)
    (by kernel_rfl)
end Go.Proofs.YtalnkhgonfcabaaDoor.collideOn
