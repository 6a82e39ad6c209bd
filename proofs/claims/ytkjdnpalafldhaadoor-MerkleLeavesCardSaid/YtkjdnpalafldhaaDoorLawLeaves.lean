/-
  MerkleLeaves: any leaves have their hashes, in order.
-/
import Derived.Test.YtkjdnpalafldhaaDoorLeaves
import Derived.Test.YtkjdnpalafldhaaDoorRoot7
import Derived.Test.YtkjdnpalafldhaaDoorAwake7
import Derived.Test.YtkjdnpalafldhaaDoorDoor
import Derived.Test.YtkjdnpalafldhaaDoorTie
import Derived.Test.YtkjdnpalafldhaaDoorCards
namespace Go.Proofs.YtkjdnpalafldhaaDoor.merkleLeaves
open Go.ChangeShapes Go.WideShapes Go.ChangeAt Go.RowKit Go.Proofs.YtkjdnpalafldhaaDoor

theorem readable : ∀ t ∈ Tryd.f5.params.toList, Tryd.prog.readableRec t = true ∧ t < Tryd.prog.types.size := by
  rw [Tryd.params5]
  intro t ht
  simp only [List.mem_cons, List.not_mem_nil, or_false] at ht
  rcases ht with rfl; exact ⟨by kernel_rfl, of_decide_eq_true (by kernel_rfl)⟩

theorem walk_big (l : List Pt) (a : Option Addr) (c : Nat) (w : World) (hl : 40 < l.length) (hl2 : l.length ≤ 9223372036854775807) (hL : Laid w) (h2 : 2 ≤ w.heap.size) :
    Calls Tryd.prog 5 #[.slice a l.length c] w fun e w' => e = .returned (.bool true) ∧ Kp [] w w' := by
  have HL := Lib.hid hL
  clear hL
  go_enter Tryd.func5, Tryd.ntmps5
  go_wp2_with fail
  refine (awake7_any _ HL.out h2).mono ?_
  rintro e w2 ⟨rfl, k2⟩
  have K2 := Lib.hid k2
  clear k2
  go_wp2
  go_ret
  exact ⟨rfl, K2.out⟩

set_option maxHeartbeats 1000000 in
theorem walk_small (l : List Pt) (a : Option Addr) (c : Nat) (w : World) (hr : Rd w a l.length c 1 (pts l)) (hp : ∀ p ∈ l, Rd w p.a p.l.length p.c 1 (bcs p.l)) (hl : l.length ≤ 40) (hL : Laid w) (h2 : 2 ≤ w.heap.size) :
    Calls Tryd.prog 5 #[.slice a l.length c] w fun e w' => e = .returned (.bool true) ∧ Kp [] w w' := by
  have HL := Lib.hid hL
  have HR := Lib.hid hr
  have HP := Lib.hid hp
  have hlen := leavesH_length l
  have HLEN := Lib.hid hlen
  have hca := fun w1 (k : Kp [] w w1) => leaves_any l a c w1 (hr.below k) (fun p hm => (hp p hm).below k) (by omega) (hL.below k) (Nat.le_trans h2 k.size)
  have HCA := Lib.hid hca
  clear hL hr hp hlen hca
  go_enter Tryd.func5, Tryd.ntmps5
  go_wp2_with fail
  refine (HCA.out _ (Kp.refl [] w)).mono ?_
  rintro e w1 ⟨v, rfl, a1, c1, rfl, o1, f1, k1⟩
  rw [HLEN.out] at o1 ⊢
  have o1r := own_rd o1
  rw [← HLEN.out] at o1r
  have O1 := Lib.hid o1r
  have K1 := Lib.hid k1
  clear o1 f1 k1 o1r
  go_wp2_with fail
  go_loopw [4, 5, 19] (fun _ _ i wr => ∃ k : Nat, k ≤ l.length ∧ i = .int .i64 k ∧ Kp [] w1 wr) (fun _ _ i _ => l.length - (intOf i).toNat)
  case atStart => exact ⟨0, by omega, rfl, Kp.refl _ _⟩
  case round =>
    obtain ⟨k, hk, rfl, hkp⟩ := hrel
    have HKP := Lib.hid (K1.out.trans hkp (by simp))
    have HKP1 := Lib.hid hkp
    by_cases hlt : k < l.length
    · obtain ⟨bp, op, rfl, _, hcp⟩ := (HR.out.below HKP.out).spot (by rw [pts_length]; omega)
      have hck := hcp k _ (pts_at l k hlt)
      have hyr := HP.out l[k] (List.getElem_mem hlt)
      have hlx : (leavesH l)[k]'(by rw [HLEN.out]; exact hlt) = leafH l[k].l := by simp [leavesH]
      obtain ⟨bh, oh, rfl, _, hch⟩ := (O1.out.below hkp).spot (by rw [hsc_length, HLEN.out]; omega)
      have hra := rd_hash hch k (by rw [HLEN.out]; exact hlt)
      rw [hlx] at hra
      obtain ⟨⟨ya, yc, yl⟩, hy⟩ : ∃ y, y = l[k] := ⟨_, rfl⟩
      rw [← hy] at hck hra hyr
      simp only at hck hra hyr
      obtain ⟨x, hx⟩ : ∃ x, x = leafH yl := ⟨_, rfl⟩
      have hcall := fun W (k : Kp [] wr W) => leaf_any ya yc yl W (hyr.below (HKP.out.trans k (by simp))) (HL.out.below (HKP.out.trans k (by simp))) (Nat.le_trans h2 (HKP.out.trans k (by simp)).size)
      rw [← hx] at hra hcall
      have hcall' : ∀ W, Kp [] wr W → Calls Tryd.prog 22 #[.slice ya yl.length yc] W fun e w' => e = .returned (.agg (hcs x).toArray) ∧ Kp [] W w' := hcall
      have HC := Lib.hid hcall'
      have HRA := Lib.hid hra
      have HYL := Lib.hid (show yl.length ≤ 9223372036854775807 by have := hyr.le; have := hyr.max; unfold maxLen at this; omega)
      clear hcall hcall' hra hkp hcp hch hx hy hyr hlx
      by_cases h500 : yl.length > 500
      · have h500' : (yl.length : Int) > 500 := by omega
        have hy0 := HYL.out
        go_wp2_with fail
        refine (awake7_any _ (HL.out.below HKP.out) (Nat.le_trans h2 HKP.out.size)).mono ?_
        rintro e w2 ⟨rfl, k2⟩
        have K2 := Lib.hid (HKP.out.trans k2 (by simp))
        clear k2 hy0
        go_wp2
        go_ret
        exact ⟨rfl, K2.out⟩
      · have h500' : ¬ (yl.length : Int) > 500 := by omega
        have hwz : ∃ wz, wz = wr.drew := ⟨_, rfl⟩
        have HS := Lib.hid (show ∀ W, Kp [] wr W → W.rangeAt bh (oh + k * 32) (hcs x) from fun W kk => rangeAt_kept HRA.out kk (by simp))
        have hty : Tryd.prog.underlying 38 = some (.array 32 5) := Tryd.underlying38
        have hsX : (Tryd.prog.info? 38).map (·.size) = some (hcs x).length := by rw [hcs_length]; exact Tryd.thash.s
        have hgt : Tryd.prog.eqGuardType Tryd.prog.depth 38 = false := Tryd.eqGuardType38
        have hneX : ∀ w, (Op.equalIn 10000 38 (.agg (hcs x).toArray) (.agg (hcs x).toArray)).run Tryd.prog w = .ok true w := fun w => by exact (Tryd.equalHash w x x).trans (by simp)
        clear hwz
        go_wp2_with fail
        refine wp_region_held_drew (S := fun W => W.rangeAt bh (oh + k * 32) (hcs x)) (by kernel_rfl) (HS.out _ (Kp.refl [] wr).drew) (fun hHeld => ?_)
        have hk0 : Kp [] wr wr.drew := (Kp.refl [] wr).drew
        refine takeD (i := 0) (dst := (some 28)) (v := ?_) rfl rfl (by kernel_rfl) (by kernel_rfl) (by kernel_rfl) (fun _ _ _ h => h) (Or.inl ⟨by rfl, ?_⟩) (by assumption) ?_
        rotate_left
        · intro w' hSw
          go_simp
          all_goals (with_reducible rfl)
        try simp only [Act.put, List.setIfInBounds_toArray, List.set_cons_zero, List.set_cons_succ]
        refine takeD (i := 1) (dst := (some 29)) (v := ?_) rfl rfl (by kernel_rfl) (by kernel_rfl) (by kernel_rfl) (fun _ _ _ h => h) (Or.inl ⟨by rfl, ?_⟩) (by assumption) ?_
        rotate_left
        · intro w' hSw
          go_simp
          all_goals (with_reducible rfl)
        try simp only [Act.put, List.setIfInBounds_toArray, List.set_cons_zero, List.set_cons_succ]
        refine takeD (i := 2) (dst := (some 30)) (v := ?_) rfl rfl (by kernel_rfl) (by kernel_rfl) (by kernel_rfl) (fun _ _ _ h => h) (Or.inl ⟨by rfl, ?_⟩) (by assumption) ?_
        rotate_left
        · intro w' hSw
          go_simp
          all_goals (with_reducible rfl)
        try simp only [Act.put, List.setIfInBounds_toArray, List.set_cons_zero, List.set_cons_succ]
        refine takeD (i := 3) (dst := (some 31)) (v := _) rfl rfl (by kernel_rfl) (by kernel_rfl) (by kernel_rfl) (fun _ _ _ h => h) (yieldsIf_load_mid (by rfl) _ _ rfl _ _ rfl _ _ (fun _ h => h) hty rfl hsX) (by assumption) ?_
        try simp only [Act.put, List.setIfInBounds_toArray, List.set_cons_zero, List.set_cons_succ]
        refine takeD (i := 4) (dst := (some 32)) (v := ?_) rfl rfl (by kernel_rfl) (by kernel_rfl) (by kernel_rfl) (fun _ _ _ h => h) (Or.inl ⟨by rfl, ?_⟩) (by assumption) ?_
        rotate_left
        · intro w' hSw
          go_simp
          all_goals (with_reducible rfl)
        try simp only [Act.put, List.setIfInBounds_toArray, List.set_cons_zero, List.set_cons_succ]
        refine wpAnyH_ready (rs := [5]) (by kernel_rfl) (by simp) ?_
        refine AllReadyH.cons rfl (fun K hK => ?_) AllReadyH.nil
        go_simp
        refine (HC.out _ hk0).mono ?_
        rintro e w5 ⟨rfl, k5⟩
        have hk5 : Kp [] wr w5 := hk0.trans k5 (by simp)
        go_wp2_with fail
        refine hK.out _ _ (HS.out _ hk5) (fun hHeld => ?_)
        clear hK K
        try simp only [Act.put, List.setIfInBounds_toArray, List.set_cons_zero, List.set_cons_succ]
        refine takeD (i := 6) (dst := (some 34)) (v := ?_) rfl rfl (by kernel_rfl) (by kernel_rfl) (by kernel_rfl) (fun _ _ _ h => h) (Or.inl ⟨by rfl, ?_⟩) (by assumption) ?_
        rotate_left
        · intro w' hSw
          go_simp
          all_goals (with_reducible rfl)
        try simp only [Act.put, List.setIfInBounds_toArray, List.set_cons_zero, List.set_cons_succ]
        refine wpAnyH_done (by kernel_rfl) ?_ _
        have HK5 := Lib.hid (HKP1.out.trans hk5 (by simp))
        clear hk5 k5 hk0 hty hsX hgt hneX
        go_wp2
        go_roundw
        case rel => exact ⟨k + 1, by omega, by go_num, HK5.out⟩
        case measure => simp [intOf]; omega
    · obtain rfl : k = l.length := by omega
      clear hkp
      go_wp2_with fail
      refine (awake7_any _ (HL.out.below HKP.out) (Nat.le_trans h2 HKP.out.size)).mono ?_
      rintro e w2 ⟨rfl, k2⟩
      have K2 := Lib.hid (HKP.out.trans k2 (by simp))
      clear k2
      go_wp2
      go_ret
      exact ⟨rfl, K2.out⟩

theorem walk (l : List Pt) (a : Option Addr) (c : Nat) (w : World) (hr : Rd w a l.length c 1 (pts l)) (hp : ∀ p ∈ l, Rd w p.a p.l.length p.c 1 (bcs p.l)) (hL : Laid w) (h2 : 2 ≤ w.heap.size) :
    Calls Tryd.prog 5 #[.slice a l.length c] w fun e w' => e = .returned (.bool true) ∧ Kp [] w w' := by
  by_cases hl : l.length ≤ 40
  · exact walk_small l a c w hr hp hl hL h2
  · exact walk_big l a c w (by omega) (by have := hr.le; have := hr.max; unfold maxLen at this; omega) hL h2

set_option maxRecDepth 100000 in
theorem lifted (os : Os) (started : os.Started) (H : Type) (enc : TypeId × Value → H) :
    ReturnsInHanded {} Tryd.checked os 5 .any (fun w args => (Rows.merkleLeavesSpec.pre enc Tryd.prog Tryd.f5 [] false w args ∧ laidMetH Tryd.prog laidL w) ∧ sizedMet enc Tryd.prog Tryd.f5 (OpenSpec.ofChange Rows.merkleLeavesSpec) false w args)
      (Rows.merkleLeavesSpec.post enc Tryd.prog Tryd.f5 false true false false) := by
  refine returnsInHanded_of_change_and (C := Tryd.checked) (X := fun w _ => laidMetH Tryd.prog laidL w) (fun _ _ _ hh h => h.of_heap hh) own started (by kernel_rfl) Tryd.func5
    (ChangeSpec.witness_shaped (enc := enc) (C := Tryd.checked) (os := os) (X := fun w _ => laidMetH Tryd.prog laidL w) false (World.doorLaid Tryd.prog 400 os) #[.slice none 0 0] 8 rfl (World.shaped_of_RefB (by kernel_rfl) (by kernel_rfl)) (by kernel_rfl) (by kernel_rfl) (by kernel_rfl) (door_met os _)) ?_
  intro W base args ds gs before hval0 hW _ _ hL _
  have hval : ∀ (j : Nat) t v, Tryd.f5.params[j]? = some t → args[j]? = some v → Value.okWide Tryd.prog W .any base t v := hval0
  have hW' := hW
  obtain ⟨p, q, hA0, hV, rfl, hfz, hnd⟩ := hW
  have hA : DataW.TrodAll enc Tryd.prog W 0 (fun _ => true) true Tryd.f5.params.toList args.toList ds p := hA0
  rw [Tryd.params5] at hA hval
  obtain ⟨v0, vs0, d0, ds0, p0, q0, hargs, rfl, rfl, h0, tr0⟩ := trodAll_cons hA
  obtain ⟨rfl, rfl, rfl⟩ := trodAll_nil tr0
  obtain rfl : args = #[v0] := by cases args; simp_all
  obtain ⟨rfl, rfl⟩ := trodVars_none hV
  obtain ⟨aa0, nn0, cc0, rfl⟩ := okWide_slice Tryd.underlying34 (hval 0 34 v0 rfl rfl)
  obtain ⟨a0, c0, l0, hc0, r0, e0⟩ := reads_bytess Tryd.underlying34 Tryd.underlying36 Tryd.underlying5 (by kernel_rfl) (by kernel_rfl) (reads_arg h0)
  simp only [Value.cells, List.cons.injEq, Value.slice.injEq, and_true] at hc0
  obtain ⟨rfl, rfl, rfl⟩ := hc0
  obtain ⟨hLw, h2w⟩ := of_laid hL
  refine (walk l0 _ _ W r0 e0 hLw h2w).mono fun e W' ⟨he, hg⟩ => ?_
  subst he
  exact ⟨_, rfl, law_post laidOut readable rfl Tryd.underlying4 rfl hW' rfl rfl rfl hg⟩

theorem over : Rows.MerkleLeavesSaid :=
  OpenClaim.holds_of_wide 5 Tryd.f5 rfl rfl rfl rfl rfl rfl rfl ⟨rfl, rfl, rfl, rfl, rfl⟩ rfl rfl rfl rfl rfl (by kernel_rfl) Tryd.func5 (by kernel_rfl)
    (of_decide_eq_true (by kernel_rfl)) (by unfold Func.isWrapper; rw [if_neg (by decide +kernel)]; exact ⟨rfl, rfl⟩)
    (fun os started H enc _ => lifted os started H enc)

theorem proved : Rows.MerkleLeavesCardSaid :=
  Claim7.holds_tied_plain_at .later [] [.data, .data] true (true, "ccdb04746241078eb1d7e4e9e80e33161d1e694d2b1da2ba8b10f0c43722e414") false
    over (fun _ h => by cases h) (by kernel_rfl) (fun _ h => by cases h) merkleLeaves_row_tie rfl ⟨rfl, rfl⟩ (by kernel_rfl) rfl
    (fun f fn hf hfn => by
      obtain rfl : f = 5 := Option.some.inj ((show Tryd.prog.funcNamed "syngraph/syngraphlaw07.MerkleLeaves" = some 5 by kernel_rfl).symm.trans hf) |>.symm
      obtain rfl : fn = Tryd.f5 := (Option.some.inj (Tryd.func5.symm.trans hfn)).symm
      exact ⟨by kernel_rfl, fun j t ht => by
        have hm := Array.mem_of_getElem? ht
        rw [Tryd.params5] at hm
        simp only [List.mem_toArray, List.mem_cons, List.not_mem_nil, or_false] at hm
        rcases hm with rfl; exact (show Tryd.prog.wantsStandIn 34 = false by kernel_rfl)⟩)
    (by kernel_rfl)
end Go.Proofs.YtkjdnpalafldhaaDoor.merkleLeaves
