/-
  CollideIn: whatever is said to be in a list, with whatever path: either it is refused, or it stands there, or a right collision is told.
-/
import Derived.Test.YtalnkhgonfcabaaDoorCollI
import Derived.Test.YtalnkhgonfcabaaDoorAwake7
import Derived.Test.YtalnkhgonfcabaaDoorDoor
import Derived.Test.YtalnkhgonfcabaaDoorTie
import Derived.Test.YtalnkhgonfcabaaDoorCards
namespace Go.Proofs.YtalnkhgonfcabaaDoor.collideIn
open Go.ChangeShapes Go.WideShapes Go.ChangeAt Go.RowKit Go.Proofs.YtalnkhgonfcabaaDoor

theorem readable : ∀ t ∈ Tryd.f12.params.toList, Tryd.prog.readableRec t = true ∧ t < Tryd.prog.types.size := by
  rw [Tryd.params12]
  intro t ht
  simp only [List.mem_cons, List.not_mem_nil, or_false] at ht
  rcases ht with rfl | rfl <;> exact ⟨by kernel_rfl, of_decide_eq_true (by kernel_rfl)⟩



set_option maxRecDepth 100000 in
theorem lifted (os : Os) (started : os.Started) (H : Type) (enc : TypeId × Value → H) :
    ReturnsInHanded {} Tryd.checked os 12 .any (fun w args => (Rows.collideInSpec.pre enc Tryd.prog Tryd.f12 [] false w args ∧ laidMetH Tryd.prog laidL w) ∧ sizedMet enc Tryd.prog Tryd.f12 (OpenSpec.ofChange Rows.collideInSpec) false w args)
      (Rows.collideInSpec.post enc Tryd.prog Tryd.f12 false true false false) := by
  refine returnsInHanded_of_change_and (C := Tryd.checked) (X := fun w _ => laidMetH Tryd.prog laidL w) (fun _ _ _ hh h => h.of_heap hh) own started (by kernel_rfl) Tryd.func12
    (ChangeSpec.witness_shaped (enc := enc) (C := Tryd.checked) (os := os) (X := fun w _ => laidMetH Tryd.prog laidL w) false (World.doorLaid Tryd.prog 400 os) #[.slice none 0 0, .agg (sgA (clS 0 0 none 0 0 none 0 0))] 8 rfl (World.shaped_of_RefB (by kernel_rfl) (by kernel_rfl)) (by kernel_rfl) (by kernel_rfl) (by kernel_rfl) (door_met os _)) ?_
  intro W base args ds gs before hval0 hW _ _ hL _
  have hval : ∀ (j : Nat) t v, Tryd.f12.params[j]? = some t → args[j]? = some v → Value.okWide Tryd.prog W .any base t v := hval0
  have hW' := hW
  obtain ⟨p, q, hA0, hV, rfl, hfz, hnd⟩ := hW
  have hA : DataW.TrodAll enc Tryd.prog W 0 (fun _ => true) true Tryd.f12.params.toList args.toList ds p := hA0
  rw [Tryd.params12] at hA hval
  obtain ⟨v0, vs0, d0, ds0, p0, q0, hargs, rfl, rfl, h0, tr0⟩ := trodAll_cons hA
  obtain ⟨v1, vs1, d1, ds1, p1, q1, rfl, rfl, rfl, h1, tr1⟩ := trodAll_cons tr0
  obtain ⟨rfl, rfl, rfl⟩ := trodAll_nil tr1
  obtain rfl : args = #[v0, v1] := by cases args; simp_all
  obtain ⟨rfl, rfl⟩ := trodVars_none hV
  obtain ⟨aa0, nn0, cc0, rfl⟩ := okWide_slice Tryd.underlying61 (hval 0 61 v0 rfl rfl)
  obtain ⟨a0, c0, l0, hc0, r0, e0⟩ := reads_bytess Tryd.underlying61 Tryd.underlying39 Tryd.underlying5 (by kernel_rfl) (by kernel_rfl) (reads_arg h0)
  simp only [Value.cells, List.cons.injEq, Value.slice.injEq, and_true] at hc0
  obtain ⟨rfl, rfl, rfl⟩ := hc0
  obtain ⟨q1a, rfl, _⟩ := okWide_struct Tryd.underlying82 (hval 1 82 v1 rfl rfl)
  obtain ⟨I1, N1, v1a, k1, y1, v1b, e1k, s1, hc1, bI1, bN1, ry1, rs1⟩ := reads_claim (reads_arg h1)
  obtain rfl : q1a = sgA (clS N1 I1 v1a y1.length k1 v1b s1.length e1k) := by rw [show sgA (clS N1 I1 v1a y1.length k1 v1b s1.length e1k) = [.int .i64 I1, .int .i64 N1, .slice v1a y1.length k1, .slice v1b s1.length e1k].toArray from rfl, ← hc1]; rfl
  obtain ⟨hLw, h2w⟩ := of_laid hL
  refine (walk l0 y1 s1 _ _ _ _ _ _ N1 I1 W r0 e0 ry1 rs1 hLw h2w).mono fun e W' ⟨he, hg⟩ => ?_
  subst he
  exact ⟨_, rfl, law_post laidOut readable rfl Tryd.underlying4 rfl hW' rfl rfl rfl hg⟩

theorem over : Rows.CollideInSaid :=
  OpenClaim.holds_of_wide 12 Tryd.f12 rfl rfl rfl rfl rfl rfl rfl ⟨rfl, rfl, rfl, rfl, rfl⟩ rfl rfl rfl rfl rfl (by kernel_rfl) Tryd.func12 (by kernel_rfl)
    (of_decide_eq_true (by kernel_rfl)) (by unfold Func.isWrapper; rw [if_neg (by decide +kernel)]; exact ⟨rfl, rfl⟩)
    (fun os started H enc _ => lifted os started H enc)

theorem proved : Rows.CollideInCardSaid :=
  Claim7.holds_tied_plain_at .later [] [.data, .data] true (true, "ac86b2faf5102662b28157047f98ddcefbb8a2e19650421389072a010148039d") false
    over (fun _ h => by cases h) (by kernel_rfl) (fun _ h => by cases h) collideIn_row_tie rfl ⟨rfl, rfl⟩ (by kernel_rfl) rfl
    (fun f fn hf hfn => by
      obtain rfl : f = 12 := Option.some.inj ((show Tryd.prog.funcNamed "syngraph/syngraphlaw10.CollideIn" = some 12 by kernel_rfl).symm.trans hf) |>.symm
      obtain rfl : fn = Tryd.f12 := (Option.some.inj (Tryd.func12.symm.trans hfn)).symm
      exact ⟨by kernel_rfl, fun j t ht => by
        have hm := Array.mem_of_getElem? ht
        rw [Tryd.params12] at hm
        simp only [List.mem_toArray, List.mem_cons, List.not_mem_nil, or_false] at hm
        rcases hm with rfl | rfl
        · exact (show Tryd.prog.wantsStandIn 61 = false by kernel_rfl)
        · exact (show Tryd.prog.wantsStandIn 82 = false by kernel_rfl)⟩)
    (by kernel_rfl)
end Go.Proofs.YtalnkhgonfcabaaDoor.collideIn
