/-
  CompactFull: no range has more leaves than there may be: what would is refused, and changes nothing.
-/
import Derived.Test.YtalnkhgonfcabaaDoorCmpF
import Derived.Test.YtalnkhgonfcabaaDoorDoorC
import Derived.Test.YtalnkhgonfcabaaDoorTie
import Derived.Test.YtalnkhgonfcabaaDoorCards
namespace Go.Proofs.YtalnkhgonfcabaaDoor.compactFull
open Go.ChangeShapes Go.WideShapes Go.ChangeAt Go.RowKit Go.Proofs.YtalnkhgonfcabaaDoor

theorem readable : ∀ t ∈ Tryd.f5.params.toList, Tryd.prog.readableRec t = true ∧ t < Tryd.prog.types.size := by
  rw [Tryd.params5]
  intro t ht
  simp only [List.mem_cons, List.not_mem_nil, or_false] at ht
  rcases ht with rfl | rfl | rfl <;> exact ⟨by kernel_rfl, of_decide_eq_true (by kernel_rfl)⟩



set_option maxRecDepth 100000 in
theorem lifted (os : Os) (started : os.Started) (H : Type) (enc : TypeId × Value → H) :
    ReturnsInHanded {} Tryd.checked os 5 .any (fun w args => (Rows.compactFullSpec.pre enc Tryd.prog Tryd.f5 [] false w args ∧ laidMetH Tryd.prog laidC w) ∧ sizedMet enc Tryd.prog Tryd.f5 (OpenSpec.ofChange Rows.compactFullSpec) false w args)
      (Rows.compactFullSpec.post enc Tryd.prog Tryd.f5 false true false false) := by
  refine returnsInHanded_of_change_and (C := Tryd.checked) (X := fun w _ => laidMetH Tryd.prog laidC w) (fun _ _ _ hh h => h.of_heap hh) own started (by kernel_rfl) Tryd.func5
    (ChangeSpec.witness_shaped (enc := enc) (C := Tryd.checked) (os := os) (X := fun w _ => laidMetH Tryd.prog laidC w) false (World.doorLaid Tryd.prog 400 os) #[.int .i64 0, .slice none 0 0, .slice none 0 0] 8 rfl (World.shaped_of_RefB (by kernel_rfl) (by kernel_rfl)) (by kernel_rfl) (by kernel_rfl) (by kernel_rfl) (door_metC os _)) ?_
  intro W base args ds gs before hval0 hW _ _ hL _
  have hval : ∀ (j : Nat) t v, Tryd.f5.params[j]? = some t → args[j]? = some v → Value.okWide Tryd.prog W .any base t v := hval0
  have hW' := hW
  obtain ⟨p, q, hA0, hV, rfl, hfz, hnd⟩ := hW
  have hA : DataW.TrodAll enc Tryd.prog W 0 (fun _ => true) true Tryd.f5.params.toList args.toList ds p := hA0
  rw [Tryd.params5] at hA hval
  obtain ⟨v0, vs0, d0, ds0, p0, q0, hargs, rfl, rfl, h0, tr0⟩ := trodAll_cons hA
  obtain ⟨v1, vs1, d1, ds1, p1, q1, rfl, rfl, rfl, h1, tr1⟩ := trodAll_cons tr0
  obtain ⟨v2, vs2, d2, ds2, p2, q2, rfl, rfl, rfl, h2, tr2⟩ := trodAll_cons tr1
  obtain ⟨rfl, rfl, rfl⟩ := trodAll_nil tr2
  obtain rfl : args = #[v0, v1, v2] := by cases args; simp_all
  obtain ⟨rfl, rfl⟩ := trodVars_none hV
  obtain ⟨a0, rfl, rfl, rfl, w0⟩ := open_int Tryd.underlying3 (hval 0 3 v0 rfl rfl) h0
  have m0 : -9223372036854775808 ≤ a0 ∧ a0 ≤ 9223372036854775807 := by have h := w0; simp [Lit.wf] at h; exact ⟨by have := h.1; rw [show IntKind.i64.min = -9223372036854775808 from rfl] at this; exact this, h.2⟩
  obtain ⟨aa1, nn1, cc1, rfl⟩ := okWide_slice Tryd.underlying22 (hval 1 22 v1 rfl rfl)
  obtain ⟨a1, c1, l1, hc1, r1⟩ := reads_hashes Tryd.underlying22 Tryd.underlying33 Tryd.underlying5 (by kernel_rfl) (by kernel_rfl) (reads_arg h1)
  simp only [Value.cells, List.cons.injEq, Value.slice.injEq, and_true] at hc1
  obtain ⟨rfl, rfl, rfl⟩ := hc1
  obtain ⟨aa2, nn2, cc2, rfl⟩ := okWide_slice Tryd.underlying22 (hval 2 22 v2 rfl rfl)
  obtain ⟨a2, c2, l2, hc2, r2⟩ := reads_hashes Tryd.underlying22 Tryd.underlying33 Tryd.underlying5 (by kernel_rfl) (by kernel_rfl) (reads_arg h2)
  simp only [Value.cells, List.cons.injEq, Value.slice.injEq, and_true] at hc2
  obtain ⟨rfl, rfl, rfl⟩ := hc2
  obtain ⟨hTw, hLw, h2w⟩ := of_laidC hL
  refine (walk a0 l1 l2 _ _ _ _ W r1 r2 hTw hLw h2w).mono fun e W' ⟨he, hg⟩ => ?_
  subst he
  exact ⟨_, rfl, law_post laidOut readable rfl Tryd.underlying4 rfl hW' rfl rfl rfl hg⟩

theorem over : Rows.CompactFullSaid :=
  OpenClaim.holds_of_wide 5 Tryd.f5 rfl rfl rfl rfl rfl rfl rfl ⟨rfl, rfl, rfl, rfl, rfl⟩ rfl rfl rfl rfl rfl (by kernel_rfl) Tryd.func5 (by kernel_rfl)
    (of_decide_eq_true (by kernel_rfl)) (by unfold Func.isWrapper; rw [if_neg (by decide +kernel)]; exact ⟨rfl, rfl⟩)
    (fun os started H enc _ => lifted os started H enc)

theorem proved : Rows.CompactFullCardSaid :=
  Claim7.holds_tied_plain_at .later [] [.data, .data, .data, .data] true (true, "ac86b2faf5102662b28157047f98ddcefbb8a2e19650421389072a010148039d") false
    over (fun _ h => by cases h) (by kernel_rfl) (fun _ h => by cases h) compactFull_row_tie rfl ⟨rfl, rfl⟩ (by kernel_rfl) rfl
    (fun f fn hf hfn => by
      obtain rfl : f = 5 := Option.some.inj ((show Tryd.prog.funcNamed "syngraph/syngraphlaw09.CompactFull" = some 5 by kernel_rfl).symm.trans hf) |>.symm
      obtain rfl : fn = Tryd.f5 := (Option.some.inj (Tryd.func5.symm.trans hfn)).symm
      exact ⟨by kernel_rfl, fun j t ht => by
        have hm := Array.mem_of_getElem? ht
        rw [Tryd.params5] at hm
        simp only [List.mem_toArray, List.mem_cons, List.not_mem_nil, or_false] at hm
        rcases hm with rfl | rfl | rfl
        · exact (show Tryd.prog.wantsStandIn 3 = false by kernel_rfl)
        · exact (show Tryd.prog.wantsStandIn 22 = false by kernel_rfl)
        · exact (show Tryd.prog.wantsStandIn 22 = false by kernel_rfl)⟩)
    (by kernel_rfl)
end Go.Proofs.YtalnkhgonfcabaaDoor.compactFull
