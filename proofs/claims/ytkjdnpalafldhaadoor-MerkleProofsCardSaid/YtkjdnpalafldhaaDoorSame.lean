/-
  law07's same: two lists of hashes that are one list.
-/
import Derived.Test.YtkjdnpalafldhaaDoorMerk2
import Derived.Test.YtkjdnpalafldhaaDoorEq
namespace Go.Proofs.YtkjdnpalafldhaaDoor
open Go.RowKit

/-- A load, in a region that only reads, whose value is known in every world of the class. -/
theorem quiet_loadA {P : Program} {ops : Array Oper} {C : World → Prop} {o : Oper} {a : Act} {K : Act → Prop} {E : Prop} (hgd : o.guard = none) {ty : TypeId} {x : Operand} (ho : o.op = .load ty x) {p : Value} (hx : a.eval x = p) {v : Value}
    (hl : ∀ w, C w → (Instr.loadAt ty p).run P w = .ok v w) (h : K (a.put o.dst v)) : if Region.wanted o (yielded ops a.tmps) = true then o.quiet P a C K else E := by
  have hw : Region.wanted o (yielded ops a.tmps) = true := by simp [Region.wanted, hgd]
  rw [if_pos hw]
  refine ⟨v, fun w hC => ?_, h⟩
  have hr := hl w hC
  unfold Oper.quietAt execOp
  simp only [ho, hx, Sem.run_bind, hr, Result.andThen_ok, Sem.run_pure]
  exact ⟨rfl, rfl⟩

theorem quiet_neqA {P : Program} {ops : Array Oper} {C : World → Prop} {o : Oper} {a : Act} {K : Act → Prop} {E : Prop} (hgd : o.guard = none) {t e r : TypeId} {i : TypeInfo} {p q : Operand} (ho : o.op = .binOp .neq t p q r)
    (ht : P.underlying t = some (.array 32 e)) (he : P.underlying e = some (.int .u8)) (hi : P.info? e = some i) (hs : i.size = 1) (hgt : P.eqGuardType P.depth t = false) {x y : Hsh} (hx : a.eval p = hv x) (hy : a.eval q = hv y) {b : Bool} (hb : (!decide (x = y)) = b)
    (h : K (a.put o.dst (.bool b))) : if Region.wanted o (yielded ops a.tmps) = true then o.quiet P a C K else E := by
  have hw : Region.wanted o (yielded ops a.tmps) = true := by simp [Region.wanted, hgd]
  rw [if_pos hw]
  refine ⟨.bool b, fun w hC => ?_, h⟩
  have hrun := run_neq_hash w ht he hi hs x y
  have hgd := run_guard_hash w hgt .neq p q x y
  rw [hb] at hrun
  unfold Oper.quietAt execOp
  simp only [ho, hx, hy, Sem.run_bind, hgd, hrun, Result.andThen_ok, Sem.run_pure]
  exact ⟨rfl, rfl⟩


set_option maxRecDepth 100000 in
theorem same_any (l : List Hsh) (a b : Option Addr) (c d : Nat) (w : World) (hx : Rd w a l.length c 32 (hsc l)) (hy : Rd w b l.length d 32 (hsc l)) :
    Calls Tryd.prog 18 #[.slice a l.length c, .slice b l.length d] w fun e w' => e = .returned (.bool true) ∧ Kp [] w w' := by
  have hmax : l.length ≤ 9223372036854775807 := by have := hx.le; have := hx.max; unfold maxLen at this; omega
  have HX := Lib.hid hx
  have HY := Lib.hid hy
  clear hx hy
  go_enter Tryd.func18, Tryd.ntmps18
  go_wp2
  go_loopw [5, 13, 25] (fun _ i _ wr => ∃ k : Nat, k ≤ l.length ∧ i = .int .i64 k ∧ Kp [] w wr) (fun _ i _ _ => l.length - (intOf i).toNat)
  case atStart => exact ⟨0, by omega, rfl, Kp.refl _ _⟩
  case round =>
    obtain ⟨k, hk, rfl, hkp⟩ := hrel
    have HKP := Lib.hid hkp
    by_cases hlt : k < l.length
    · obtain ⟨b2, o2, hya, _, hc2⟩ := (HY.out.below hkp).spot (by rw [hsc_length]; omega)
      obtain ⟨b1, o1, hxa, _, hc1⟩ := (HX.out.below hkp).spot (by rw [hsc_length]; omega)
      have hr2 := rd_hash hc2 k hlt
      have hr1 := rd_hash hc1 k hlt
      subst hya hxa
      obtain ⟨y, hy⟩ : ∃ y, y = l[k] := ⟨_, rfl⟩
      rw [← hy] at hr1 hr2
      have hty : Tryd.prog.underlying 38 = some (.array 32 5) := Tryd.underlying38
      have hln1 : (hcs y).length = 32 := hcs_length _
      have hsi1 : (Tryd.prog.info? 38).map (·.size) = some (hcs y).length := by rw [hln1]; exact Tryd.thash.s
      clear hc1 hc2 hkp hy
      obtain ⟨i8, hi8, hs8⟩ := Tryd.infoU8
      have HI8 := Lib.hid hi8
      have HS8 := Lib.hid hs8
      clear hi8 hs8
      have hl2 : ∀ w', (∃ n, w' = wr.drewN n) → (Instr.loadAt 38 (.pointer (some ⟨b2, o2 + k * 32, none⟩))).run Tryd.prog w' = .ok (.agg (hvA y)) w' := fun w' hw' => by obtain ⟨n, rfl⟩ := hw'; exact run_loadAt_mid _ _ _ _ (hcs y) _ (fun j v hj => hr2 j v hj) hty rfl hsi1
      have HL2 := Lib.hid hl2
      have hl1 : ∀ w', (∃ n, w' = wr.drewN n) → (Instr.loadAt 38 (.pointer (some ⟨b1, o1 + k * 32, none⟩))).run Tryd.prog w' = .ok (.agg (hvA y)) w' := fun w' hw' => by obtain ⟨n, rfl⟩ := hw'; exact run_loadAt_mid _ _ _ _ (hcs y) _ (fun j v hj => hr1 j v hj) hty rfl hsi1
      have HL1 := Lib.hid hl1
      clear hl1 hl2 hr1 hr2 hty hln1 hsi1
      go_wp2_with fail
      refine wp_region_quiet_lit (by kernel_rfl) (by kernel_rfl) ?_
      repeat (first | (quiet_step (fail)) | (refine wpQuiet_step (fun K hK => ?_); refine quiet_loadA rfl rfl rfl (by first | exact HL2.out | exact HL1.out) (hK _ ?_); clear hK K; simp only [Act.put, List.setIfInBounds_toArray, List.set_cons_zero, List.set_cons_succ]))
      refine wpQuiet_step (fun K hK => ?_)
      refine quiet_neqA rfl rfl Tryd.underlying38 Tryd.underlying5 HI8.out HS8.out Tryd.eqGuardType38 rfl rfl (show (!decide (y = y)) = false by simp) (hK _ ?_)
      clear hK K
      simp only [Act.put, List.setIfInBounds_toArray, List.set_cons_zero, List.set_cons_succ]
      refine wpQuiet_nil ?_
      rintro _ ⟨nq, rfl⟩
      clear HL1 HL2
      go_wp2
      go_roundw
      case rel => exact ⟨k + 1, by omega, by go_num, HKP.out.drewN _⟩
      case measure => simp [intOf]; omega
    · obtain rfl : k = l.length := by omega
      go_wp2
      go_ret
      exact ⟨rfl, HKP.out⟩
end Go.Proofs.YtkjdnpalafldhaaDoor
