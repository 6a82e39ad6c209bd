import Derived.Test.YtngdbblgnimogaaThing3
namespace Go.Proofs.Ytngdbblgnimogaa
open Go.RowKit

theorem Rd.kept2 {F : List Nat} {w w' : World} {a : Option Addr} {n c size : Nat} {xs : List Value} (h : Rd w a n c size xs) (k : Kp F w w') (hF : 0 < xs.length → ∀ x ∈ aF a, x ∉ F) : Rd w' a n c size xs := by
  by_cases hp : 0 < xs.length
  · exact h.kept k (hF hp)
  · have : xs = [] := List.eq_nil_of_length_eq_zero (by omega)
    subst this
    exact ⟨h.len, h.le, h.max, h.nil, by simp⟩
/-- A load, in a region that only reads, whose value is known in every world of the class. -/
theorem quiet_loadA {P : Program} {ops : Array Oper} {C : World → Prop} {o : Oper} {a : Act} {K : Act → Prop} {E : Prop} (hgd : o.guard = none) {ty : TypeId} {x : Operand} (ho : o.op = .load ty x) {p : Value} (hx : a.eval x = p) {v : Value}
    (hl : ∀ w, C w → (Instr.loadAt ty p).run P w = .ok v w) (h : K (a.put o.dst v)) : if Region.wanted o (yielded ops a.tmps) = true then o.quiet P a C K else E := by
  have hw : Region.wanted o (yielded ops a.tmps) = true := by simp [Region.wanted, hgd]
  rw [if_pos hw]
  refine ⟨v, fun w hC => ?_, h⟩
  have hr := hl w hC
  unfold Oper.quietAt execOp
  simp only [ho, hx, Sem.run_bind, hr, Result.andThen_ok, Sem.run_pure]
  exact ⟨rfl, rfl⟩

theorem quiet_neqA {P : Program} {ops : Array Oper} {C : World → Prop} {o : Oper} {a : Act} {K : Act → Prop} {E : Prop} (hgd : o.guard = none) {t e r : TypeId} {i : TypeInfo} {p q : Operand} (ho : o.op = .binOp .neq t p q r)
    (ht : P.underlying t = some (.array 32 e)) (he : P.underlying e = some (.int .u8)) (hi : P.info? e = some i) (hs : i.size = 1) (hgt : P.eqGuardType P.depth t = false) {x y : Hsh} (hx : a.eval p = hv x) (hy : a.eval q = hv y) {b : Bool} (hb : (!decide (x = y)) = b)
    (h : K (a.put o.dst (.bool b))) : if Region.wanted o (yielded ops a.tmps) = true then o.quiet P a C K else E := by
  have hw : Region.wanted o (yielded ops a.tmps) = true := by simp [Region.wanted, hgd]
  rw [if_pos hw]
  refine ⟨.bool b, fun w hC => ?_, h⟩
  have hrun := run_neq_hash w ht he hi hs x y
  have hgd := run_guard_hash w hgt .neq p q x y
  rw [hb] at hrun
  unfold Oper.quietAt execOp
  simp only [ho, hx, hy, Sem.run_bind, hgd, hrun, Result.andThen_ok, Sem.run_pure]
  exact ⟨rfl, rfl⟩

def rThS (x : Th) (s : St) : St :=
  if x.kind = 0 then (rInt s).2 else if x.kind = 1 then (rBytes 1000 s).2 else if x.kind = 2 then (rHash s).2 else if x.kind = 3 then (rHashes 1000 s).2 else if x.kind = 4 then (rBool s).2 else s
structure ThGood (x : Th) (s : St) : Prop where
  g0 : x.kind = 0 → (rInt s).1 = x.n
  g1 : x.kind = 1 → (rBytes 1000 s).1 = sl x.text
  g2 : x.kind = 2 → (rHash s).1 = x.hash
  g3 : x.kind = 3 → (rHashes 1000 s).1 = x.hs
  g4 : x.kind = 4 → (rBool s).1 = x.flag
theorem rThS_0 {x : Th} {s : St} (h : x.kind = 0) : rThS x s = (rInt s).2 := by simp [rThS, h]
theorem rThS_1 {x : Th} {s : St} (h : x.kind = 1) : rThS x s = (rBytes 1000 s).2 := by simp [rThS, h]
theorem rThS_2 {x : Th} {s : St} (h : x.kind = 2) : rThS x s = (rHash s).2 := by simp [rThS, h]
theorem rThS_3 {x : Th} {s : St} (h : x.kind = 3) : rThS x s = (rHashes 1000 s).2 := by simp [rThS, h]
theorem rThS_4 {x : Th} {s : St} (h : x.kind = 4) : rThS x s = (rBool s).2 := by simp [rThS, h]
theorem rThS_5 {x : Th} {s : St} (h0 : ¬ x.kind = 0) (h1 : ¬ x.kind = 1) (h2 : ¬ x.kind = 2) (h3 : ¬ x.kind = 3) (h4 : ¬ x.kind = 4) : rThS x s = s := by simp [rThS, h0, h1, h2, h3, h4]

def Told (w : World) (p : Nat) (G : List Nat) (x : Th) (s : St) (e : Ending) (w' : World) : Prop :=
  ∃ b, e = .returned (.bool b) ∧ (ThGood x s → b = true) ∧ InAt w' p (rThS x s) G ∧ Kp [p] w w'

set_option maxHeartbeats 2000000 in
theorem told_any (p : Nat) (x : Th) (s : St) (G : List Nat) (w : World) (hi : InAt w p s G) (hp : p ∉ G) (hG : ∀ y ∈ G, y < w.heap.size) (h : ThOk w x) (hF : 0 < x.hs.length → p ∉ aF x.ha) :
    Calls Try.prog 25 #[.pointer (some ⟨p, 0, none⟩), .agg (thA x)] w fun e w' => Told w p G x s e w' := by
  have hbx := (box_new w x).kept (w' := (w.alloc (.cells (thA x) 48)).drew) (F := []) (Kp.refl _ _).drew (by simp)
  have hb0 := box_new w x
  have hkw : Kp [] w (w.alloc (.cells (thA x) 48)) := (Kp.refl [] w).alloc _
  have hpw := hi.lt
  have HI := Lib.hid (hi.kept hkw (by simp) (by simp))
  have HID := Lib.hid (hi.kept hkw.drew (by simp) (by simp))
  have HP := Lib.hid hp
  have HG := Lib.hid (fun y hy => Nat.lt_of_lt_of_le (hG y hy) hkw.size)
  have HK := Lib.hid (hkw.mono (G := [p]) (by simp))
  have HX := Lib.hid h
  have HF := Lib.hid hF
  have HB := Lib.hid hb0
  have HBD := Lib.hid hbx
  have c0 := hb0.cell (thC_0 x)
  clear hb0 hbx hkw h hi hF hp hG
  by_cases k0 : x.kind = 0
  · have HT := Lib.hid (fun b (hb : b = true ↔ (rInt s).1 = x.n) (hg : ThGood x s) => hb.2 (hg.g0 k0))
    rw [k0] at c0
    unfold Told
    rw [rThS_0 k0]
    clear k0
    have c1 := HBD.out.cell (thC_1 x)
    go_enter Try.func25, Try.ntmps25
    go_wp2_with fail
    go_region_held3 (fun w' => w'.cell? ⟨w.heap.size, 1, none⟩ = some (.int .i64 x.n)) (first | exact hc5 | exact c1) (first | (refine (int_any p s G _ HID.out).mono ?_; rintro e w5 ⟨rfl, h5, k5⟩; have hc5 := (k5.cell (p := ⟨w.heap.size, 1, none⟩) (World.block_lt_of_cell? _ _ c1) (by simp; omega)).trans c1))
    all_goals
      have H5 := Lib.hid h5
      have K5 := Lib.hid k5
      clear h5 k5 hc5
      go_wp2
      go_ret
      exact ⟨_, rfl, HT.out _ (by simp), H5.out, HK.out.drew.trans K5.out (by simp)⟩
  by_cases k1 : x.kind = 1
  · have HT := Lib.hid (fun b (hb : b = true ↔ (rBytes 1000 s).1 = x.text.toList) (hg : ThGood x s) => hb.2 (by rw [hg.g1 k1, ByteArray.toList_eq]; rfl))
    rw [k1] at c0
    unfold Told
    rw [rThS_1 k1]
    clear k0 k1
    have c1 := HBD.out.cell (thC_2 x)
    go_enter Try.func25, Try.ntmps25
    go_wp2_with fail
    go_region_held3 (fun w' => w'.cell? ⟨w.heap.size, 2, none⟩ = some (.string x.text)) (first | exact hc5 | exact c1) (first | (refine (text_any p 1000 s G _ HID.out).mono ?_; rintro e w5 ⟨rfl, h5, k5⟩; have hc5 := (k5.cell (p := ⟨w.heap.size, 2, none⟩) (World.block_lt_of_cell? _ _ c1) (by simp; omega)).trans c1))
    all_goals
      have H5 := Lib.hid h5
      have K5 := Lib.hid k5
      clear h5 k5 hc5
      go_wp2
      go_ret
      exact ⟨_, rfl, HT.out _ (by simp), H5.out, HK.out.drew.trans K5.out (by simp)⟩
  by_cases k2 : x.kind = 2
  · have HT := Lib.hid (fun b (hb : b = true ↔ (rHash s).1 = x.hash) (hg : ThGood x s) => hb.2 (hg.g2 k2))
    rw [k2] at c0
    unfold Told
    rw [rThS_2 k2]
    clear k0 k1 k2
    have hrz := HBD.out.hash
    have hty : Try.prog.underlying 39 = some (.array 32 5) := Try.underlying39
    have hln : (hcs x.hash).length = 32 := hcs_length _
    have hsi : (Try.prog.info? 39).map (·.size) = some (hcs x.hash).length := by rw [hln]; exact Try.thash.s
    have hone : ∀ u ∈ hcs x.hash, u.oneCell' = true := fun u hu => hvA_one x.hash u (by simpa [hvA] using hu)
    have hgt : Try.prog.eqGuardType Try.prog.depth 39 = false := Try.eqGuardType39
    have hne : ∀ w, (Op.equalIn 10000 39 (.agg (hvA (rHash s).1)) (.agg (hcs x.hash).toArray)).run Try.prog w = .ok (decide ((rHash s).1 = x.hash)) w := fun w => Try.equalHash w (rHash s).1 x.hash
    go_enter Try.func25, Try.ntmps25
    go_wp2_with fail
    go_region_held3 (fun w' => w'.rangeAt w.heap.size 3 (hcs x.hash)) (first | exact hr5 | exact hrz) (first | (refine (hash_any p s G _ HID.out HG.out).mono ?_; rintro e w5 ⟨rfl, h5, k5⟩; have hr5 := hrz.keptK k5 (by simp; omega)))
    all_goals
      have H5 := Lib.hid h5
      have K5 := Lib.hid k5
      clear h5 k5 hr5 hrz hty hln hsi hone hgt hne
      go_wp2
      go_ret
      exact ⟨_, rfl, HT.out _ (by simp), H5.out, HK.out.drew.trans K5.out (by simp)⟩
  by_cases k4 : x.kind = 4
  · have HT := Lib.hid (fun b (hb : b = true ↔ (rBool s).1 = x.flag) (hg : ThGood x s) => hb.2 (hg.g4 k4))
    rw [k4] at c0
    unfold Told
    rw [rThS_4 k4]
    clear k0 k1 k2 k4
    have c1 := HBD.out.cell (thC_36 x)
    go_enter Try.func25, Try.ntmps25
    go_wp2_with fail
    go_region_held3 (fun w' => w'.cell? ⟨w.heap.size, 36, none⟩ = some (.bool x.flag)) (first | exact hc5 | exact c1) (first | (refine (bool_any p s G _ HID.out HP.out).mono ?_; rintro e w5 ⟨rfl, h5, k5⟩; have hc5 := (k5.cell (p := ⟨w.heap.size, 36, none⟩) (World.block_lt_of_cell? _ _ c1) (by simp; omega)).trans c1))
    all_goals
      have H5 := Lib.hid h5
      have K5 := Lib.hid k5
      clear h5 k5 hc5
      go_wp2
      go_ret
      exact ⟨_, rfl, HT.out _ (by simp), H5.out, HK.out.drew.trans K5.out (by simp)⟩
  by_cases k3 : x.kind = 3
  · have HT := Lib.hid (fun (hg : ThGood x s) => hg.g3 k3)
    rw [k3] at c0
    unfold Told
    rw [rThS_3 k3]
    clear k0 k1 k2 k3 k4
    obtain ⟨lr, hlr⟩ : ∃ lr, lr = (rHashes 1000 s).1 := ⟨_, rfl⟩
    have hhl := HX.out.hl
    go_enter Try.func25, Try.ntmps25
    go_wp2_with fail
    refine (hashes_any p 1000 s G _ HI.out HP.out HG.out).mono ?_
    rw [← hlr]
    rw [← hlr] at HT
    rintro e w2 ⟨a2, c2, rfl, hown, hF2, h5, k5⟩
    have hrd2 := own_rd hown
    have H5 := Lib.hid h5
    have K5 := Lib.hid k5
    have HR2 := Lib.hid hrd2
    have c35 := (HB.out.kept k5 (by simp; omega)).cell (thC_35 x)
    have HB2 := Lib.hid (HB.out.kept k5 (by simp; omega))
    have HRX := Lib.hid ((HX.out.rd.below ((Kp.refl [] w).alloc (.cells (thA x) 48))).kept2 k5 (fun hp y hy hh => HF.out (by rw [hsc_length] at hp; omega) (by simp at hh; rwa [hh] at hy)))
    have HLR := Lib.hid hlr
    clear hown hF2 h5 k5 hlr hrd2
    by_cases hlen : lr.length = x.hs.length
    · have hb : ((lr.length : Int) == (x.hs.length : Int)) = true := by simp [hlen]
      have hb2 : ((lr.length : Int) != (x.hs.length : Int)) = false := by simp [hlen]
      have HLEN := Lib.hid hlen
      clear hlen
      go_wp2
      go_loopw [6, 42] (fun _ i wr => ∃ k : Nat, k ≤ lr.length ∧ i = .int .i64 k ∧ Kp [] w2 wr) (fun _ i _ => lr.length - (intOf i).toNat)
      case atStart => exact ⟨0, by omega, rfl, Kp.refl _ _⟩
      case round =>
        obtain ⟨k, hk, rfl, hkp⟩ := hrel
        have HKP := Lib.hid hkp
        by_cases hlt : k < lr.length
        · obtain ⟨b2, o2, rfl, _, hc2⟩ := (HR2.out.below hkp).spot (by rw [hsc_length]; omega)
          obtain ⟨b1, o1, hxa, _, hc1⟩ := (HRX.out.below hkp).spot (by rw [hsc_length]; have := HLEN.out; omega)
          have hr2 := rd_hash hc2 k hlt
          have hr1 := rd_hash hc1 k (by have := HLEN.out; omega)
          have hltx : k < x.hs.length := by have := HLEN.out; omega
          have cc := (HB2.out.kept hkp (by simp)).cell (thC_35 x)
          rw [hxa] at cc
          have HXA := Lib.hid hxa
          clear hxa
          obtain ⟨y2, hy2⟩ : ∃ y, y = lr[k] := ⟨_, rfl⟩
          obtain ⟨y1, hy1⟩ : ∃ y, y = x.hs[k]'(by omega) := ⟨_, rfl⟩
          rw [← hy2] at hr2
          rw [← hy1] at hr1
          have HNE := Lib.hid (fun (hn : ¬ y2 = y1) (hg : ThGood x s) => hn (by
            have e := HT.out hg
            rw [hy1, hy2]; simp only [e]))
          have hty : Try.prog.underlying 39 = some (.array 32 5) := Try.underlying39
          have hln1 : (hcs y1).length = 32 := hcs_length _
          have hln2 : (hcs y2).length = 32 := hcs_length _
          have hsi1 : (Try.prog.info? 39).map (·.size) = some (hcs y1).length := by rw [hln1]; exact Try.thash.s
          have hsi2 : (Try.prog.info? 39).map (·.size) = some (hcs y2).length := by rw [hln2]; exact Try.thash.s
          have hone1 : ∀ u ∈ hcs y1, u.oneCell' = true := fun u hu => hvA_one y1 u (by simpa [hvA] using hu)
          have hone2 : ∀ u ∈ hcs y2, u.oneCell' = true := fun u hu => hvA_one y2 u (by simpa [hvA] using hu)
          clear hc1 hc2 hkp hy1 hy2
          obtain ⟨i8, hi8, hs8⟩ := Try.infoU8
          have HI8 := Lib.hid hi8
          have HS8 := Lib.hid hs8
          clear hi8 hs8
          have hl2 : ∀ w', (∃ n, w' = wr.drewN n) → (Instr.loadAt 39 (.pointer (some ⟨b2, o2 + k * 32, none⟩))).run Try.prog w' = .ok (.agg (hvA y2)) w' := fun w' hw' => by obtain ⟨n, rfl⟩ := hw'; exact run_loadAt_mid _ _ _ _ (hcs y2) _ (fun j v hj => hr2 j v hj) hty rfl hsi2
          have HL2 := Lib.hid hl2
          clear hl2
          have hl1 : ∀ w', (∃ n, w' = wr.drewN n) → (Instr.loadAt 39 (.pointer (some ⟨b1, o1 + k * 32, none⟩))).run Try.prog w' = .ok (.agg (hvA y1)) w' := fun w' hw' => by obtain ⟨n, rfl⟩ := hw'; exact run_loadAt_mid _ _ _ _ (hcs y1) _ (fun j v hj => hr1 j v hj) hty rfl hsi1
          have HL1 := Lib.hid hl1
          clear hl1
          clear hr1 hr2 hty hln1 hln2 hsi1 hsi2 hone1 hone2
          by_cases hyy : y2 = y1
          · subst hyy
            go_wp2_with fail
            refine wp_region_quiet_lit (by kernel_rfl) (by kernel_rfl) ?_
            repeat (first | (quiet_step (fail)) | (refine wpQuiet_step (fun K hK => ?_); refine quiet_loadA rfl rfl rfl (by first | exact HL2.out | exact HL1.out) (hK _ ?_); clear hK K; simp only [Act.put, List.setIfInBounds_toArray, List.set_cons_zero, List.set_cons_succ]))
            refine wpQuiet_step (fun K hK => ?_)
            refine quiet_neqA rfl rfl Try.underlying39 Try.underlying5 HI8.out HS8.out Try.eqGuardType39 rfl rfl (show (!decide (y2 = y2)) = false by simp) (hK _ ?_)
            clear hK K
            simp only [Act.put, List.setIfInBounds_toArray, List.set_cons_zero, List.set_cons_succ]
            refine wpQuiet_nil ?_
            rintro _ ⟨nq, rfl⟩
            clear HL1 HL2
            go_wp2
            go_roundw
            case rel =>
              exact ⟨k + 1, by omega, by go_num, HKP.out.drewN _⟩
            case measure => simp [intOf]; omega
          · go_wp2_with fail
            refine wp_region_quiet_lit (by kernel_rfl) (by kernel_rfl) ?_
            repeat (first | (quiet_step (fail)) | (refine wpQuiet_step (fun K hK => ?_); refine quiet_loadA rfl rfl rfl (by first | exact HL2.out | exact HL1.out) (hK _ ?_); clear hK K; simp only [Act.put, List.setIfInBounds_toArray, List.set_cons_zero, List.set_cons_succ]))
            refine wpQuiet_step (fun K hK => ?_)
            refine quiet_neqA rfl rfl Try.underlying39 Try.underlying5 HI8.out HS8.out Try.eqGuardType39 rfl rfl (show (!decide (y2 = y1)) = true by simp [hyy]) (hK _ ?_)
            clear hK K
            simp only [Act.put, List.setIfInBounds_toArray, List.set_cons_zero, List.set_cons_succ]
            refine wpQuiet_nil ?_
            rintro _ ⟨nq, rfl⟩
            clear HL1 HL2
            go_wp2
            go_ret
            exact ⟨false, rfl, fun hg => (HNE.out hyy hg).elim, (H5.out.kept HKP.out (by simp) (by simp)).kept ((Kp.refl [] _).drewN _) (by simp) (by simp), ((HK.out.trans K5.out (by simp)).trans HKP.out (by simp)).drewN _⟩
        · obtain rfl : k = lr.length := by omega
          go_wp2
          go_ret
          exact ⟨true, rfl, fun _ => rfl, H5.out.kept HKP.out (by simp) (by simp), (HK.out.trans K5.out (by simp)).trans HKP.out (by simp)⟩
    · have hb : ((lr.length : Int) == (x.hs.length : Int)) = false := by simp; omega
      go_wp2
      go_ret
      exact ⟨_, rfl, fun hg => absurd (congrArg List.length (HT.out hg)) hlen, H5.out, HK.out.trans K5.out (by simp)⟩
  · unfold Told
    rw [rThS_5 k0 k1 k2 k3 k4]
    go_enter Try.func25, Try.ntmps25
    go_wp2
    go_ret
    exact ⟨true, rfl, fun _ => rfl, HI.out, HK.out⟩
end Go.Proofs.Ytngdbblgnimogaa
