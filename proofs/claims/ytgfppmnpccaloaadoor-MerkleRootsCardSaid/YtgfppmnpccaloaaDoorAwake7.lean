/-
  law07's fixed answer.
-/
import Derived.Test.YtgfppmnpccaloaaDoorMerk4
import Derived.Test.YtgfppmnpccaloaaDoorEq
namespace Go.Proofs.YtgfppmnpccaloaaDoor
open Go.RowKit

theorem step_lit {P : Program} {ops : Array Oper} {o : Oper} {a : Act} {w : World} {K : Act → World → Prop} {Q : Exit → Act → World → Prop} {E : Prop} {t e : TypeId} {i : TypeInfo} {z : Value} {size bytes : Nat} (T : SlT P t e i z size bytes) (hw : Region.wanted o (yielded ops a.tmps) = true)
    {n : Nat} {parts : Array (Nat × Operand)} (ho : o.op = .buildSlice t n parts) (vs : List Value) (hn : n = vs.length) (hp : (parts.map fun (i, x) => (i, a.eval x)) = ((vs.zipIdx 0).map fun p => (p.2, p.1)).toArray)
    (hv : ∀ v ∈ vs, v.cells.size = size) (hb : vs.length * size ≤ 16777216)
    (h : K (a.put o.dst (.slice (some ⟨w.heap.size, 0, none⟩) n n)) (w.alloc (.cells (flatV vs).toArray e))) : if Region.wanted o (yielded ops a.tmps) = true then Oper.wp P o a w K Q else E := by
  rw [if_pos hw]
  have hr := run_buildSlice_all (w := w) T vs hv hb
  unfold Oper.wp execOp
  simp only [ho, hp, hn, Sem.run_bind, Sem.run_pure, Result.andThen_ok, hr]
  subst hn
  exact h

section
variable {P : Program} {ops : Array Oper} {Q : Exit → Act → World → Prop} {md : Region.Mode} {S : World → Prop}
/-- As 'wpAnyH_take', the slot written out. -/
theorem takeD {i : Nat} {oi : Oper} {dst : Option Tmp} {v : Value} {fuel : Nat} {listed : Array Bool} {a : Act} {w : World} (hi : ops[i]? = some oi) (hd : oi.dst = dst)
    (hs : Region.noSelect ops = true) (hf : Region.free md ops listed i = true) (hr : (Region.ready md ops listed).contains i = true)
    (hQ : ∀ c a w, Q (.panic c) (a.put oi.dst v) w → Q (.panic c) a w) (hy : YieldsIf P ops S oi v a) (hS : S w)
    (h : wpAnyH P md ops Q S fuel (listed.setIfInBounds i true) (a.put dst v) w) : wpAnyH P md ops Q S (fuel + 1) listed a w :=
  wpAnyH_take hi hs hf hr hQ hy hS (by rw [hd]; exact h)
end

theorem sp_2 : sp 2 = 1 := by decide +kernel
theorem sp_3 : sp 3 = 2 := by decide +kernel
theorem rootH_two (a b : Hsh) : rootH [a, b] = nodeH a b := by
  have h := rootH_split [a, b] (by simp) (by simp)
  rw [show [a, b].length = 2 from rfl, sp_2] at h
  exact h
theorem rootH_three (a b c : Hsh) : rootH [a, b, c] = nodeH (nodeH a b) c := by
  have h := rootH_split [a, b, c] (by simp) (by simp)
  rw [show [a, b, c].length = 3 from rfl, sp_3] at h
  rw [h, show [a, b, c].take 2 = [a, b] from rfl, rootH_two]
  rfl
theorem pathH_three (a b c : Hsh) : pathH [a, b, c] 2 = [nodeH a b] := by
  have h := besH_right [a, b, c] 2 (by simp) (by simp) (by rw [show [a, b, c].length = 3 from rfl, sp_3]; decide)
  rw [show [a, b, c].length = 3 from rfl, sp_3] at h
  unfold pathH
  rw [h, besH_one _ _ (by simp), show [a, b, c].take 2 = [a, b] from rfl, rootH_two]
  rfl
/-- A hash that begins with this byte, and has no other. -/
def h1 (b : UInt8) : Hsh := ⟨b :: List.replicate 31 0, by simp⟩

theorem range_hv {w : World} {g : Nat} {x : Hsh} {t : TypeId} {fr : Nat × Nat} (h : w.heap[g]? = some (.cells (hvA x) t fr)) : w.rangeAt g 0 (hcs x) := fun j v hv => by
  rw [cell_of_row w g _ _ _ _ h, Nat.zero_add]; simpa [hvA] using hv

set_option maxRecDepth 100000 in
set_option maxHeartbeats 1500000 in
theorem awake7_any (w : World) (hL : Laid w) (h2 : 2 ≤ w.heap.size) : Calls Tryd.prog 6 #[] w fun e w' => e = .returned (.bool true) ∧ Kp [] w w' := by
  obtain ⟨i0, T⟩ := Tryd.thashes
  have HTS := Lib.hid T
  have HL := Lib.hid hL
  have G0 := Lib.hid (show (((w.alloc (.cells (hvA zeroH) 24)).alloc (.cells (hvA zeroH) 24)).alloc (.cells (hvA zeroH) 24)).heap[w.heap.size]? = some (.cells (hvA zeroH) 24 (0, 0)) from (Below.heap_alloc _ _ _ (by simp; omega)).trans ((Below.heap_alloc _ _ _ (by simp)).trans (heap_alloc_new w _)))
  have G1 := Lib.hid (show (((w.alloc (.cells (hvA zeroH) 24)).alloc (.cells (hvA zeroH) 24)).alloc (.cells (hvA zeroH) 24)).heap[w.heap.size + 1]? = some (.cells (hvA zeroH) 24 (0, 0)) from (Below.heap_alloc _ _ _ (by simp)).trans (by have := heap_alloc_new (w.alloc (.cells (hvA zeroH) 24)) (.cells (hvA zeroH) 24); rw [heap_alloc_size] at this; exact this))
  have G2 := Lib.hid (show (((w.alloc (.cells (hvA zeroH) 24)).alloc (.cells (hvA zeroH) 24)).alloc (.cells (hvA zeroH) 24)).heap[w.heap.size + 1 + 1]? = some (.cells (hvA zeroH) 24 (0, 0)) from by
    have := heap_alloc_new ((w.alloc (.cells (hvA zeroH) 24)).alloc (.cells (hvA zeroH) 24)) (.cells (hvA zeroH) 24)
    rw [heap_alloc_size, heap_alloc_size] at this
    exact this)
  have HSA := Lib.hid (show (((w.alloc (.cells (hvA zeroH) 24)).alloc (.cells (hvA zeroH) 24)).alloc (.cells (hvA zeroH) 24)).heap.size = w.heap.size + 1 + 1 + 1 by simp)
  have KA := Lib.hid (show Kp [] w (((w.alloc (.cells (hvA zeroH) 24)).alloc (.cells (hvA zeroH) 24)).alloc (.cells (hvA zeroH) 24)) from (((Kp.refl [] w).alloc _).alloc _).alloc _)
  have tokA : True := trivial
  have tokB : True := trivial
  have tokC : True := trivial
  have tokL1 : True := trivial
  have tokL2 : True := trivial
  have tokL3 : True := trivial
  clear hL T
  go_enter Tryd.func6, Tryd.ntmps6
  go_wp2_with (first
    | (have _t := tokA; refine wpList_set Tryd.thash rfl rfl G0.out (hvA_size _) rfl (hvA_one (h1 1)) rfl rfl ?_; intro wA hA kA sA; clear tokA; have HA := Lib.hid hA; have KSA := Lib.hid kA; have SA := Lib.hid sA; have G1A := Lib.hid ((kA.block _ (lt_of_block G1.out) (by simp)).trans G1.out); have G2A := Lib.hid ((kA.block _ (lt_of_block G2.out) (by simp; omega)).trans G2.out); clear hA kA sA)
    | (have _t := tokB; refine wpList_set Tryd.thash rfl rfl G1A.out (hvA_size _) rfl (hvA_one (h1 2)) rfl rfl ?_; intro wB hB kB sB; clear tokB; have HB := Lib.hid hB; have KSB := Lib.hid kB; have SB := Lib.hid sB; have HA2 := Lib.hid ((kB.block _ (lt_of_block HA.out) (by simp)).trans HA.out); have G2B := Lib.hid ((kB.block _ (lt_of_block G2A.out) (by simp)).trans G2A.out); clear hB kB sB)
    | (have _t := tokC; refine wpList_set Tryd.thash rfl rfl G2B.out (hvA_size _) rfl (hvA_one (h1 3)) rfl rfl ?_; intro wC hC kC sC; clear tokC; have HC := Lib.hid hC; have KSC := Lib.hid kC; have SC := Lib.hid sC; have HA3 := Lib.hid ((kC.block _ (lt_of_block HA2.out) (by simp; omega)).trans HA2.out); have HB3 := Lib.hid ((kC.block _ (lt_of_block HB.out) (by simp)).trans HB.out); clear hC kC sC)
    | (have _t := tokL1; refine wpList_get Tryd.thash rfl rfl HA3.out (hvA_size _) rfl ?_; clear tokL1)
    | (have _t := tokL2; refine wpList_get Tryd.thash rfl rfl HB3.out (hvA_size _) rfl ?_; clear tokL2)
    | (have _t := tokL3; refine wpList_get Tryd.thash rfl rfl HC.out (hvA_size _) rfl ?_; clear tokL3; have tokD : True := trivial)
    | (have _t := tokD; clear tokD; refine wpList_lit HTS.out rfl rfl [hv (h1 1), hv (h1 2), hv (h1 3)] rfl (by simp [Act.eval, Act.put]) (hvs_size [h1 1, h1 2, h1 3]) (by simp) ?_))
  have KC := Lib.hid (show Kp [] w wC from ((KA.out.trans KSA.out (fun x hx hlt => by simp at hx; omega)).trans KSB.out (fun x hx hlt => by simp at hx; omega)).trans KSC.out (fun x hx hlt => by simp at hx; omega))
  have hrd3 : Rd (wC.alloc (.cells (flatV [hv (h1 1), hv (h1 2), hv (h1 3)]).toArray 24)) (some ⟨wC.heap.size, 0, none⟩) 3 3 32 (hsc [h1 1, h1 2, h1 3]) := by
    have h := rd_alloc (w := wC) (m := 3) (size := 32) (cs := (flatV [hv (h1 1), hv (h1 2), hv (h1 3)]).toArray) (et := 24) (by rw [List.size_toArray, show flatV [hv (h1 1), hv (h1 2), hv (h1 3)] = hsc [h1 1, h1 2, h1 3] from flatV_hv [h1 1, h1 2, h1 3], hsc_length]; rfl) (by simp [maxLen])
    rwa [List.toList_toArray, show flatV [hv (h1 1), hv (h1 2), hv (h1 3)] = hsc [h1 1, h1 2, h1 3] from flatV_hv [h1 1, h1 2, h1 3]] at h
  have kal := KC.out.alloc (.cells (flatV [hv (h1 1), hv (h1 2), hv (h1 3)]).toArray 24)
  have hcall := path_any [h1 1, h1 2, h1 3] (some ⟨wC.heap.size, 0, none⟩) 3 2 _ hrd3 (by simp) (by simp) (HL.out.below kal) (Nat.le_trans h2 kal.size)
  have HCALL := Lib.hid hcall
  have KAL := Lib.hid kal
  clear hcall kal hrd3
  refine HCALL.out.mono ?_
  rintro e wz ⟨v, rfl, h5⟩
  rw [pathH_three] at h5
  obtain ⟨ap, cp, rfl, ho5, f5, k5⟩ := h5
  obtain ⟨pb, rfl, rp⟩ : ∃ pb, ap = some ⟨pb, 0, none⟩ ∧ wz.rangeAt pb 0 (hcs (nodeH (h1 1) (h1 2))) := by
    have hr := own_rd ho5
    rcases ho5.2 with ⟨hv, hn⟩ | ⟨g, cap, cur, hv, _⟩
    · cases hn
    · simp at hv
      obtain ⟨rfl, rfl⟩ := hv
      refine ⟨g, rfl, fun j v hj => ?_⟩
      obtain ⟨b, hb', hc⟩ := hr.cells j v (by simpa [hsc] using hj)
      simp only [Option.some.injEq] at hb'
      subst hb'
      rw [Addr.add_mid] at hc
      exact hc
  have kz : Kp [] wC wz := ((Kp.refl [] wC).alloc _).trans k5 (by simp)
  have HA4 := range_hv ((kz.block _ (lt_of_block HA3.out) (by simp)).trans HA3.out)
  have HB4 := range_hv ((kz.block _ (lt_of_block HB3.out) (by simp)).trans HB3.out)
  have HC4 := range_hv ((kz.block _ (lt_of_block HC.out) (by simp)).trans HC.out)
  have KZ := Lib.hid (KC.out.trans kz (by simp))
  have HS := Lib.hid (show ∀ W, Kp [] wz W → (W.rangeAt w.heap.size 0 (hcs (h1 1)) ∧ W.rangeAt (w.heap.size + 1) 0 (hcs (h1 2))) ∧ (W.rangeAt (w.heap.size + 1 + 1) 0 (hcs (h1 3)) ∧ W.rangeAt pb 0 (hcs (nodeH (h1 1) (h1 2)))) from fun W k => ⟨⟨rangeAt_kept HA4 k (by simp), rangeAt_kept HB4 k (by simp)⟩, ⟨rangeAt_kept HC4 k (by simp), rangeAt_kept rp k (by simp)⟩⟩)
  obtain ⟨N, hN⟩ : ∃ N, N = nodeH (h1 1) (h1 2) := ⟨_, rfl⟩
  obtain ⟨R, hR⟩ : ∃ R, R = nodeH N (h1 3) := ⟨_, rfl⟩
  rw [← hN] at HS
  have HN1 := Lib.hid (show ∀ W, Kp [] wz W → Calls Tryd.prog 10 #[.agg (hcs (h1 1)).toArray, .agg (hcs (h1 2)).toArray] W fun e w' => e = .returned (.agg (hcs N).toArray) ∧ Kp [] W w' from fun W k => by
    have kk := KZ.out.trans k (by simp)
    rw [hN]; exact node_any (h1 1) (h1 2) W (HL.out.below kk) (Nat.le_trans h2 kk.size))
  have HN2 := Lib.hid (show ∀ W, Kp [] wz W → Calls Tryd.prog 10 #[.agg (hcs N).toArray, .agg (hcs (h1 3)).toArray] W fun e w' => e = .returned (.agg (hcs R).toArray) ∧ Kp [] W w' from fun W k => by
    have kk := KZ.out.trans k (by simp)
    rw [hR]; exact node_any N (h1 3) W (HL.out.below kk) (Nat.le_trans h2 kk.size))
  have HR1 := Lib.hid (show ∀ W, Kp [] wz W → Calls Tryd.prog 4 #[.slice (some ⟨W.heap.size, 0, none⟩) 3 3] (W.alloc (.cells (flatV [hv (h1 1), hv (h1 2), hv (h1 3)]).toArray 24)) fun e w' => e = .returned (.agg (hcs R).toArray) ∧ Kp [] (W.alloc (.cells (flatV [hv (h1 1), hv (h1 2), hv (h1 3)]).toArray 24)) w' from fun W k => by
    have kk := (KZ.out.trans k (by simp)).alloc (.cells (flatV [hv (h1 1), hv (h1 2), hv (h1 3)]).toArray 24)
    have hr3 := rd_alloc (w := W) (m := 3) (size := 32) (cs := (flatV [hv (h1 1), hv (h1 2), hv (h1 3)]).toArray) (et := 24) (by rw [List.size_toArray, show flatV [hv (h1 1), hv (h1 2), hv (h1 3)] = hsc [h1 1, h1 2, h1 3] from flatV_hv [h1 1, h1 2, h1 3], hsc_length]; rfl) (by simp [maxLen])
    rw [List.toList_toArray, show flatV [hv (h1 1), hv (h1 2), hv (h1 3)] = hsc [h1 1, h1 2, h1 3] from flatV_hv [h1 1, h1 2, h1 3]] at hr3
    have h := root_any [h1 1, h1 2, h1 3] (some ⟨W.heap.size, 0, none⟩) 3 _ hr3 (HL.out.below kk) (Nat.le_trans h2 kk.size)
    rw [rootH_three, ← hN, ← hR] at h
    exact h)
  have hty : Tryd.prog.underlying 24 = some (.array 32 5) := Tryd.underlying24
  have hsA : (Tryd.prog.info? 24).map (·.size) = some (hcs (h1 1)).length := by rw [hcs_length]; exact Tryd.thash.s
  have hsB : (Tryd.prog.info? 24).map (·.size) = some (hcs (h1 2)).length := by rw [hcs_length]; exact Tryd.thash.s
  have hsC : (Tryd.prog.info? 24).map (·.size) = some (hcs (h1 3)).length := by rw [hcs_length]; exact Tryd.thash.s
  have hsN : (Tryd.prog.info? 24).map (·.size) = some (hcs N).length := by rw [hcs_length]; exact Tryd.thash.s
  have hgt : Tryd.prog.eqGuardType Tryd.prog.depth 24 = false := Tryd.eqGuardType24
  have hneN : ∀ w, (Op.equalIn 10000 24 (.agg (hcs N).toArray) (.agg (hcs N).toArray)).run Tryd.prog w = .ok true w := fun w => by exact (Tryd.equalHash w N N).trans (by simp)
  have hneR : ∀ w, (Op.equalIn 10000 24 (.agg (hcs R).toArray) (.agg (hcs R).toArray)).run Tryd.prog w = .ok true w := fun w => by exact (Tryd.equalHash w R R).trans (by simp)
  clear rp HA4 HB4 HC4 kz f5 ho5 hN hR k5
  go_wp2_with fail
  refine wp_region_held_drew (S := fun W => (W.rangeAt w.heap.size 0 (hcs (h1 1)) ∧ W.rangeAt (w.heap.size + 1) 0 (hcs (h1 2))) ∧ (W.rangeAt (w.heap.size + 1 + 1) 0 (hcs (h1 3)) ∧ W.rangeAt pb 0 (hcs N))) (by kernel_rfl) (HS.out _ (Kp.refl [] wz).drew) (fun hHeld => ?_)
  have hk0 : Kp [] wz wz.drew := (Kp.refl [] wz).drew
  refine takeD (i := 0) (dst := (some 17)) (v := ?_) rfl rfl (by kernel_rfl) (by kernel_rfl) (by kernel_rfl) (fun _ _ _ h => h) (Or.inl ⟨by rfl, ?_⟩) (by assumption) ?_
  rotate_left
  · intro w' hSw
    go_simp
    all_goals (with_reducible rfl)
  try simp only [Act.put, List.setIfInBounds_toArray, List.set_cons_zero, List.set_cons_succ]
  refine takeD (i := 1) (dst := (some 18)) (v := ?_) rfl rfl (by kernel_rfl) (by kernel_rfl) (by kernel_rfl) (fun _ _ _ h => h) (Or.inl ⟨by rfl, ?_⟩) (by assumption) ?_
  rotate_left
  · intro w' hSw
    go_simp
    all_goals (with_reducible rfl)
  try simp only [Act.put, List.setIfInBounds_toArray, List.set_cons_zero, List.set_cons_succ]
  refine takeD (i := 2) (dst := (some 19)) (v := ?_) rfl rfl (by kernel_rfl) (by kernel_rfl) (by kernel_rfl) (fun _ _ _ h => h) (Or.inl ⟨by rfl, ?_⟩) (by assumption) ?_
  rotate_left
  · intro w' hSw
    go_simp
    all_goals (with_reducible rfl)
  try simp only [Act.put, List.setIfInBounds_toArray, List.set_cons_zero, List.set_cons_succ]
  refine takeD (i := 3) (dst := (some 20)) (v := ?_) rfl rfl (by kernel_rfl) (by kernel_rfl) (by kernel_rfl) (fun _ _ _ h => h) (Or.inl ⟨by rfl, ?_⟩) (by assumption) ?_
  rotate_left
  · intro w' hSw
    go_simp
    all_goals (with_reducible rfl)
  try simp only [Act.put, List.setIfInBounds_toArray, List.set_cons_zero, List.set_cons_succ]
  refine takeD (i := 4) (dst := (some 21)) (v := ?_) rfl rfl (by kernel_rfl) (by kernel_rfl) (by kernel_rfl) (fun _ _ _ h => h) (Or.inl ⟨by rfl, ?_⟩) (by assumption) ?_
  rotate_left
  · intro w' hSw
    go_simp
    all_goals (with_reducible rfl)
  try simp only [Act.put, List.setIfInBounds_toArray, List.set_cons_zero, List.set_cons_succ]
  refine takeD (i := 5) (dst := (some 22)) (v := ?_) rfl rfl (by kernel_rfl) (by kernel_rfl) (by kernel_rfl) (fun _ _ _ h => h) (Or.inl ⟨by rfl, ?_⟩) (by assumption) ?_
  rotate_left
  · intro w' hSw
    go_simp
    all_goals (with_reducible rfl)
  try simp only [Act.put, List.setIfInBounds_toArray, List.set_cons_zero, List.set_cons_succ]
  refine takeD (i := 6) (dst := (some 23)) (v := ?_) rfl rfl (by kernel_rfl) (by kernel_rfl) (by kernel_rfl) (fun _ _ _ h => h) (Or.inl ⟨by rfl, ?_⟩) (by assumption) ?_
  rotate_left
  · intro w' hSw
    go_simp
    all_goals (with_reducible rfl)
  try simp only [Act.put, List.setIfInBounds_toArray, List.set_cons_zero, List.set_cons_succ]
  refine takeD (i := 7) (dst := (some 24)) (v := ?_) rfl rfl (by kernel_rfl) (by kernel_rfl) (by kernel_rfl) (fun _ _ _ h => h) (Or.inl ⟨by rfl, ?_⟩) (by assumption) ?_
  rotate_left
  · intro w' hSw
    go_simp
    all_goals (with_reducible rfl)
  try simp only [Act.put, List.setIfInBounds_toArray, List.set_cons_zero, List.set_cons_succ]
  refine takeD (i := 8) (dst := (some 25)) (v := ?_) rfl rfl (by kernel_rfl) (by kernel_rfl) (by kernel_rfl) (fun _ _ _ h => h) (Or.inl ⟨by rfl, ?_⟩) (by assumption) ?_
  rotate_left
  · intro w' hSw
    go_simp
    all_goals (with_reducible rfl)
  try simp only [Act.put, List.setIfInBounds_toArray, List.set_cons_zero, List.set_cons_succ]
  refine takeD (i := 9) (dst := (some 26)) (v := ?_) rfl rfl (by kernel_rfl) (by kernel_rfl) (by kernel_rfl) (fun _ _ _ h => h) (Or.inl ⟨by rfl, ?_⟩) (by assumption) ?_
  rotate_left
  · intro w' hSw
    go_simp
    all_goals (with_reducible rfl)
  try simp only [Act.put, List.setIfInBounds_toArray, List.set_cons_zero, List.set_cons_succ]
  refine takeD (i := 10) (dst := (some 27)) (v := _) rfl rfl (by kernel_rfl) (by kernel_rfl) (by kernel_rfl) (fun _ _ _ h => h) (yieldsIf_load_mid (by rfl) _ _ rfl _ _ rfl _ _ (fun _ h => h.2.2) hty rfl hsN) (by assumption) ?_
  try simp only [Act.put, List.setIfInBounds_toArray, List.set_cons_zero, List.set_cons_succ]
  refine takeD (i := 11) (dst := (some 28)) (v := _) rfl rfl (by kernel_rfl) (by kernel_rfl) (by kernel_rfl) (fun _ _ _ h => h) (yieldsIf_load_mid (by rfl) _ _ rfl _ _ rfl _ _ (fun _ h => h.1.1) hty rfl hsA) (by assumption) ?_
  try simp only [Act.put, List.setIfInBounds_toArray, List.set_cons_zero, List.set_cons_succ]
  refine takeD (i := 12) (dst := (some 29)) (v := _) rfl rfl (by kernel_rfl) (by kernel_rfl) (by kernel_rfl) (fun _ _ _ h => h) (yieldsIf_load_mid (by rfl) _ _ rfl _ _ rfl _ _ (fun _ h => h.1.2) hty rfl hsB) (by assumption) ?_
  try simp only [Act.put, List.setIfInBounds_toArray, List.set_cons_zero, List.set_cons_succ]
  refine wpAnyH_ready (rs := [13]) (by kernel_rfl) (by simp) ?_
  refine AllReadyH.cons rfl (fun K hK => ?_) AllReadyH.nil
  go_simp
  refine (HN1.out _ hk0).mono ?_
  rintro e w5 ⟨rfl, k5⟩
  have hk5 : Kp [] wz w5 := hk0.trans k5 (by simp)
  go_wp2_with fail
  refine hK.out _ _ (HS.out _ hk5) (fun hHeld => ?_)
  clear hK K
  try simp only [Act.put, List.setIfInBounds_toArray, List.set_cons_zero, List.set_cons_succ]
  refine takeD (i := 14) (dst := (some 31)) (v := ?_) rfl rfl (by kernel_rfl) (by kernel_rfl) (by kernel_rfl) (fun _ _ _ h => h) (Or.inl ⟨by rfl, ?_⟩) (by assumption) ?_
  rotate_left
  · intro w' hSw
    go_simp
    all_goals (with_reducible rfl)
  try simp only [Act.put, List.setIfInBounds_toArray, List.set_cons_zero, List.set_cons_succ]
  refine takeD (i := 15) (dst := (some 32)) (v := ?_) rfl rfl (by kernel_rfl) (by kernel_rfl) (by kernel_rfl) (fun _ _ _ h => h) (Or.inl ⟨by rfl, ?_⟩) (by assumption) ?_
  rotate_left
  · intro w' hSw
    go_simp
    all_goals (with_reducible rfl)
  try simp only [Act.put, List.setIfInBounds_toArray, List.set_cons_zero, List.set_cons_succ]
  refine takeD (i := 16) (dst := (some 33)) (v := ?_) rfl rfl (by kernel_rfl) (by kernel_rfl) (by kernel_rfl) (fun _ _ _ h => h) (Or.inl ⟨by rfl, ?_⟩) (by assumption) ?_
  rotate_left
  · intro w' hSw
    go_simp
    all_goals (with_reducible rfl)
  try simp only [Act.put, List.setIfInBounds_toArray, List.set_cons_zero, List.set_cons_succ]
  refine takeD (i := 17) (dst := (some 34)) (v := _) rfl rfl (by kernel_rfl) (by kernel_rfl) (by kernel_rfl) (fun _ _ _ h => h) (yieldsIf_load_mid (by rfl) _ _ rfl _ _ rfl _ _ (fun _ h => h.1.1) hty rfl hsA) (by assumption) ?_
  try simp only [Act.put, List.setIfInBounds_toArray, List.set_cons_zero, List.set_cons_succ]
  refine takeD (i := 18) (dst := (some 35)) (v := _) rfl rfl (by kernel_rfl) (by kernel_rfl) (by kernel_rfl) (fun _ _ _ h => h) (yieldsIf_load_mid (by rfl) _ _ rfl _ _ rfl _ _ (fun _ h => h.1.2) hty rfl hsB) (by assumption) ?_
  try simp only [Act.put, List.setIfInBounds_toArray, List.set_cons_zero, List.set_cons_succ]
  refine takeD (i := 19) (dst := (some 36)) (v := _) rfl rfl (by kernel_rfl) (by kernel_rfl) (by kernel_rfl) (fun _ _ _ h => h) (yieldsIf_load_mid (by rfl) _ _ rfl _ _ rfl _ _ (fun _ h => h.2.1) hty rfl hsC) (by assumption) ?_
  try simp only [Act.put, List.setIfInBounds_toArray, List.set_cons_zero, List.set_cons_succ]
  refine takeD (i := 22) (dst := (some 39)) (v := ?_) rfl rfl (by kernel_rfl) (by kernel_rfl) (by kernel_rfl) (fun _ _ _ h => h) (Or.inl ⟨by rfl, ?_⟩) (by assumption) ?_
  rotate_left
  · intro w' hSw
    go_simp
    all_goals (with_reducible rfl)
  try simp only [Act.put, List.setIfInBounds_toArray, List.set_cons_zero, List.set_cons_succ]
  refine takeD (i := 23) (dst := (some 40)) (v := ?_) rfl rfl (by kernel_rfl) (by kernel_rfl) (by kernel_rfl) (fun _ _ _ h => h) (Or.inl ⟨by rfl, ?_⟩) (by assumption) ?_
  rotate_left
  · intro w' hSw
    go_simp
    all_goals (with_reducible rfl)
  try simp only [Act.put, List.setIfInBounds_toArray, List.set_cons_zero, List.set_cons_succ]
  refine takeD (i := 24) (dst := (some 41)) (v := _) rfl rfl (by kernel_rfl) (by kernel_rfl) (by kernel_rfl) (fun _ _ _ h => h) (yieldsIf_load_mid (by rfl) _ _ rfl _ _ rfl _ _ (fun _ h => h.2.2) hty rfl hsN) (by assumption) ?_
  try simp only [Act.put, List.setIfInBounds_toArray, List.set_cons_zero, List.set_cons_succ]
  refine takeD (i := 25) (dst := (some 42)) (v := _) rfl rfl (by kernel_rfl) (by kernel_rfl) (by kernel_rfl) (fun _ _ _ h => h) (yieldsIf_load_mid (by rfl) _ _ rfl _ _ rfl _ _ (fun _ h => h.2.1) hty rfl hsC) (by assumption) ?_
  try simp only [Act.put, List.setIfInBounds_toArray, List.set_cons_zero, List.set_cons_succ]
  refine wpAnyH_ready (rs := [20]) (by kernel_rfl) (by simp) ?_
  refine AllReadyH.cons rfl (fun K hK => ?_) AllReadyH.nil
  refine step_lit (E := _) HTS.out rfl rfl [hv (h1 1), hv (h1 2), hv (h1 3)] rfl (by first | rfl | (simp [Act.eval]; done) | (simp [Act.eval]; exact ⟨rfl, rfl, rfl⟩)) (hvs_size [h1 1, h1 2, h1 3]) (by simp) ?_
  have hk6 : Kp [] wz (w5.alloc (.cells (flatV [hv (h1 1), hv (h1 2), hv (h1 3)]).toArray 24)) := hk5.alloc _
  refine hK.out (Act.put _ (some 37) _) _ (HS.out _ hk6) (fun hHeld => ?_)
  clear hK K
  try simp only [Act.put, List.setIfInBounds_toArray, List.set_cons_zero, List.set_cons_succ]
  refine wpAnyH_ready (rs := [21]) (by kernel_rfl) (by simp) ?_
  refine AllReadyH.cons rfl (fun K hK => ?_) AllReadyH.nil
  go_simp
  refine (HR1.out _ hk5).mono ?_
  rintro e w7 ⟨rfl, k7⟩
  have hk7 : Kp [] wz w7 := hk6.trans k7 (by simp)
  go_wp2_with fail
  refine hK.out _ _ (HS.out _ hk7) (fun hHeld => ?_)
  clear hK K
  try simp only [Act.put, List.setIfInBounds_toArray, List.set_cons_zero, List.set_cons_succ]
  refine wpAnyH_ready (rs := [26]) (by kernel_rfl) (by simp) ?_
  refine AllReadyH.cons rfl (fun K hK => ?_) AllReadyH.nil
  go_simp
  refine (HN2.out _ hk7).mono ?_
  rintro e w8 ⟨rfl, k8⟩
  have hk8 : Kp [] wz w8 := hk7.trans k8 (by simp)
  go_wp2_with fail
  refine hK.out _ _ (HS.out _ hk8) (fun hHeld => ?_)
  clear hK K
  try simp only [Act.put, List.setIfInBounds_toArray, List.set_cons_zero, List.set_cons_succ]
  refine takeD (i := 27) (dst := (some 44)) (v := ?_) rfl rfl (by kernel_rfl) (by kernel_rfl) (by kernel_rfl) (fun _ _ _ h => h) (Or.inl ⟨by rfl, ?_⟩) (by assumption) ?_
  rotate_left
  · intro w' hSw
    go_simp
    all_goals (with_reducible rfl)
  try simp only [Act.put, List.setIfInBounds_toArray, List.set_cons_zero, List.set_cons_succ]
  refine takeD (i := 28) (dst := (some 45)) (v := ?_) rfl rfl (by kernel_rfl) (by kernel_rfl) (by kernel_rfl) (fun _ _ _ h => h) (Or.inl ⟨by rfl, ?_⟩) (by assumption) ?_
  rotate_left
  · intro w' hSw
    go_simp
    all_goals (with_reducible rfl)
  try simp only [Act.put, List.setIfInBounds_toArray, List.set_cons_zero, List.set_cons_succ]
  refine takeD (i := 29) (dst := (some 0)) (v := ?_) rfl rfl (by kernel_rfl) (by kernel_rfl) (by kernel_rfl) (fun _ _ _ h => h) (Or.inl ⟨by rfl, ?_⟩) (by assumption) ?_
  rotate_left
  · intro w' hSw
    go_simp
    all_goals (with_reducible rfl)
  try simp only [Act.put, List.setIfInBounds_toArray, List.set_cons_zero]
  refine wpAnyH_done (by kernel_rfl) ?_ _
  go_wp2_with fail
  go_ret
  exact ⟨rfl, KZ.out.trans hk8 (by simp)⟩
end Go.Proofs.YtgfppmnpccaloaaDoor

