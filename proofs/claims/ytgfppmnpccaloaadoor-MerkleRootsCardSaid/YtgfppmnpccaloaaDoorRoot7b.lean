/-
  law07's root, of one leaf or more.
-/
import Derived.Test.YtgfppmnpccaloaaDoorRoot7
namespace Go.Proofs.YtgfppmnpccaloaaDoor
open Go.RowKit

set_option maxRecDepth 100000 in
set_option maxHeartbeats 1000000 in
theorem root7_any (l : List Hsh) (a : Option Addr) (c : Nat) (w : World) (hr : Rd w a l.length c 32 (hsc l)) (hll : l.length ≤ 1000) (hne : l ≠ []) (hL : Laid w) (h2 : 2 ≤ w.heap.size) :
    Calls Tryd.prog 5 #[.slice a l.length c] w fun e w' => e = .returned (.agg (hcs (rootH l)).toArray) ∧ Kp [] w w' := by
  have hl1 : 1 ≤ l.length := List.length_pos_iff.2 hne
  have hrun := run_rops l l.length 0 l.length [] (Nat.le_refl _) hl1 (by omega) (by omega)
  rw [List.drop_zero, List.take_length, List.nil_append] at hrun
  have hlen := rops_length l.length 0 l.length (Nat.le_refl _) hl1 (by omega)
  have hcall := fun w => refRoot_all l.length 0 l.length w (Nat.le_refl _) hl1 (by omega)
  obtain ⟨r, hrr⟩ : ∃ r, r = rootH l := ⟨_, rfl⟩
  rw [← hrr] at hrun ⊢
  clear hrr
  obtain ⟨ops, hops⟩ : ∃ ops, ops = rops l.length 0 l.length := ⟨_, rfl⟩
  rw [← hops] at hrun hlen
  have hcall2 : ∀ w, Calls Tryd.prog 11 #[.int .i64 0, .int .i64 (l.length : Int)] w fun e w' => ∃ v, e = .returned v ∧ NewIs w v w' ops := fun w => by
    have h := hcall w
    rw [Nat.zero_add, ← hops] at h
    exact h
  have HCALL := Lib.hid hcall2
  have HRUN := Lib.hid hrun
  have hn0 : ((l.length : Int) == 0) = false := by simp; omega
  have k0 := (Kp.refl [] w).alloc (.cells (hvA zeroH) 24)
  have HGR := Lib.hid (heap_alloc_new w (.cells (hvA zeroH) 24))
  obtain ⟨w0, hw0⟩ : ∃ w0, w0 = w.alloc (.cells (hvA zeroH) 24) := ⟨_, rfl⟩
  rw [← hw0] at k0 HGR
  have hlt : w.heap.size < w0.heap.size := by rw [hw0]; simp
  have HLT := Lib.hid hlt
  have HL := Lib.hid hL
  have HR := Lib.hid hr
  have K0 := Lib.hid k0
  have HW0 := Lib.hid hw0
  obtain ⟨i0, T⟩ := Tryd.thashes
  have HT := Lib.hid T
  clear hL k0 hw0 hlt hr hrun hops hcall hcall2 T hne
  go_enter Tryd.func5, Tryd.ntmps5
  go_wp2_with fail
  rw [zeroH_lit, show w.alloc (.cells (hvA zeroH) 24) = w0 from HW0.out.symm]
  refine (HCALL.out _).mono ?_
  rintro e w1 ⟨v, rfl, ao, co, rfl, oo, fo, ko⟩
  have HO := Lib.hid (own_rd oo)
  have HGR1 := Lib.hid ((ko.block w.heap.size HLT.out (by simp)).trans HGR.out)
  have K1 := Lib.hid (K0.out.trans ko (by simp))
  have HS1 := Lib.hid (Nat.lt_of_lt_of_le HLT.out ko.size)
  clear oo fo ko
  go_wp2_with fail
  go_loopw [3, 15] (fun v i wr => ∃ (k : Nat) (s : List Hsh) (a2 : Option Addr) (c2 : Nat), k ≤ ops.length ∧ s.length ≤ k ∧ i = .int .i64 k ∧ (ops.take k).foldl (stepH l) (some []) = some s ∧ v = .slice a2 s.length c2 ∧ wr.ownsRow 0 24 32 (.slice a2 s.length c2) s.length (hsc s) ∧ (∀ x ∈ aF a2, w1.heap.size ≤ x) ∧ Kp [] w1 wr) (fun _ i _ => ops.length - (intOf i).toNat)
  case atStart => exact ⟨0, [], none, 0, by omega, by simp, rfl, rfl, rfl, World.ownsRow_nil _ _ _ _, by simp [aF], Kp.refl _ _⟩
  case round =>
    obtain ⟨k, s, a2, c2, hk, hsk, rfl, hs, rfl, hown, hF, hkp⟩ := hrel
    by_cases hlt : k < ops.length
    · obtain ⟨s0, s1, e1, e2, e3⟩ := run_at l ops [r] HRUN.out k hlt
      obtain rfl : s = s0 := Option.some.inj (hs.symm.trans e1)
      obtain ⟨bo, ob, rfl, _, hco⟩ := (HO.out.below hkp).spot (by rw [ivs_length]; omega)
      have hcell : wr.cell? ⟨bo, ob + k, none⟩ = some (.int .i64 ops[k]) := hco k _ (ivs_at ops k hlt)
      obtain ⟨op, hop⟩ : ∃ op, op = ops[k] := ⟨_, rfl⟩
      rw [← hop] at hcell e2
      have HO2 := Lib.hid hown
      have HF := Lib.hid hF
      have HKP := Lib.hid hkp
      have E3 := Lib.hid e3
      clear hco hop hown hF hkp e1 e3 hs
      by_cases h0 : 0 ≤ op
      · obtain ⟨x, hx, hs1⟩ : ∃ x, l[op.toNat]? = some x ∧ s1 = s ++ [x] := by
          simp only [stepH, Option.bind_some, if_pos h0, Option.map_eq_some_iff] at e2
          obtain ⟨x, h1, h2⟩ := e2
          exact ⟨x, h1, h2.symm⟩
        obtain ⟨j, rfl⟩ : ∃ j : Nat, op = j := ⟨op.toNat, by omega⟩
        rw [Int.toNat_natCast] at hx
        obtain ⟨hj, hxj⟩ := List.getElem?_eq_some_iff.1 hx
        obtain ⟨bl, ol, rfl, _, hcl⟩ := ((HR.out.below K1.out).below HKP.out).spot (by rw [hsc_length]; omega)
        have hra := rd_hash hcl j hj
        rw [hxj] at hra
        have HRA := Lib.hid hra
        have HS1' := Lib.hid hs1
        have hkl : s.length ≤ 100000 := by omega
        clear hra hcl e2 hx hxj hs1
        go_wp2_with (first | (refine wpList_get_mid Tryd.thash rfl rfl HRA.out (hcs_length _) rfl ?_) | (refine wpList_lit HT.out rfl rfl [hv x] rfl (by first | rfl | (simp [Act.eval]; done) | (simp [Act.eval]; rfl)) (hvs_size [x]) (by simp) ?_) | (at_builtin; refine wpList_append_rd HT.out rfl rfl rfl (HO2.out.alloc _) rfl (rd_alloc (m := 1) (by rw [flatV_one]; simp [hcs_length]) (by simp [maxLen])) (by rw [flatV_one]; exact hcs_one x) (by omega) (by simp [maxLen]; omega) ?_; intro a' c' w3 hown hgrow hF3; have HO3 := Lib.hid hown; have HG3 := Lib.hid hgrow; have HF3 := Lib.hid hF3; clear hown hgrow hF3))
        go_roundw
        case rel =>
          refine ⟨k + 1, s ++ [x], a', c', by omega, by rw [List.length_append, List.length_singleton]; omega, by go_num, by rw [E3.out, HS1'.out], by rw [List.length_append, List.length_singleton], ?_, fun y hy => ?_, (HKP.out.alloc _).pushed HG3.out (fun y hy => .inr (HF.out y hy))⟩
          · have := HO3.out
            rw [flatV_one] at this
            rw [List.length_append, List.length_singleton, hsc_snoc]; exact this
          · rcases HF3.out y hy with h | h
            · exact HF.out y h
            · rw [h]; have := HKP.out.size; simp; omega
        case measure => simp [intOf]; omega
      · have hop1 : ((op : Int) ≥ 0) = False := by simp; omega
        obtain ⟨hs2, hs1⟩ : 2 ≤ s.length ∧ s1 = s.take (s.length - 2) ++ [nodeH (s.getD (s.length - 2) zeroH) (s.getD (s.length - 1) zeroH)] := by
          simp only [stepH, Option.bind_some, if_neg h0] at e2
          by_cases h2s : 2 ≤ s.length
          · rw [if_pos h2s] at e2; exact ⟨h2s, (Option.some.inj e2).symm⟩
          · rw [if_neg h2s] at e2; cases e2
        obtain ⟨n, hn⟩ : ∃ n, s.length = n + 2 := ⟨s.length - 2, by omega⟩
        rw [hn, show n + 2 - 2 = n by omega, show n + 2 - 1 = n + 1 by omega] at hs1
        obtain ⟨bs, os, rfl, _, hcs⟩ := (own_rd HO2.out).spot (by rw [hsc_length]; omega)
        have hra := rd_hash hcs n (by omega)
        have hrb := rd_hash hcs (n + 1) (by omega)
        have hA : s.getD n zeroH = s[n] := by simp [List.getD, show n < s.length by omega]
        have hB : s.getD (n + 1) zeroH = s[n + 1] := by simp [List.getD, show n + 1 < s.length by omega]
        rw [← hA] at hra
        rw [← hB] at hrb
        obtain ⟨A, hAA⟩ : ∃ A, A = s.getD n zeroH := ⟨_, rfl⟩
        obtain ⟨B, hBB⟩ : ∃ B, B = s.getD (n + 1) zeroH := ⟨_, rfl⟩
        rw [← hAA] at hra hs1
        rw [← hBB] at hrb hs1
        have HRA := Lib.hid hra
        have HRB := Lib.hid hrb
        have HS1' := Lib.hid hs1
        have HT2 := Lib.hid (own_take HO2.out n (by omega))
        clear hra hrb hs1 hA hB hAA hBB hcs e2
        have hi1 : (n : Int) < (n : Int) + 2 := by omega
        have hi2 : (n : Int) + 1 < (n : Int) + 2 := by omega
        have hi3 : (0 : Int) ≤ (n : Int) + 1 := by omega
        have hi4 : ((n : Int) + 1).toNat = n + 1 := by omega
        have hi5 : IntKind.i64.wrap ((n : Int) + 1) = n + 1 := IntWalk.i64_in _ (by omega)
        have HNODE := Lib.hid (show Calls Tryd.prog 10 #[.agg (hcs A).toArray, .agg (hcs B).toArray] wr.drew fun e w' => e = .returned (.agg (hcs (nodeH A B)).toArray) ∧ Kp [] wr.drew w' from node_any A B _ (((HL.out.below K1.out).below HKP.out).below (Kp.refl [] wr).drew) (Nat.le_trans h2 (Nat.le_trans K1.out.size (Nat.le_trans HKP.out.size (Kp.refl [] wr).drew.size))))
        have hnc2 : n ≤ c2 := by have := (own_rd HO2.out).le; omega
        have HRA6 := Lib.hid (rangeAt_kept HRA.out ((Kp.refl [] wr).drew) (by simp))
        have HRB6 := Lib.hid (rangeAt_kept HRB.out ((Kp.refl [] wr).drew) (by simp))
        have hlz : (s.length : Int) - 2 = n := by omega
        have hw2 : IntKind.i64.wrap ((s.length : Int) - 2) = n := by rw [hlz]; exact IntWalk.i64_in _ (by omega)
        go_wp2_with fail
        refine wp_region_held_drew (S := fun _ => True) (by kernel_rfl) trivial (fun hHeld => ?_)
        refine takeD (i := 0) (dst := (some 34)) (v := ?_) rfl rfl (by kernel_rfl) (by kernel_rfl) (by kernel_rfl) (fun _ _ _ h => h) (Or.inl ⟨by rfl, ?_⟩) (by assumption) ?_
        rotate_left
        · intro w' hSw
          go_simp
          all_goals (with_reducible rfl)
        try simp only [Act.put, List.setIfInBounds_toArray, List.set_cons_zero, List.set_cons_succ]
        refine takeD (i := 1) (dst := (some 35)) (v := ?_) rfl rfl (by kernel_rfl) (by kernel_rfl) (by kernel_rfl) (fun _ _ _ h => h) (Or.inl ⟨by rfl, ?_⟩) (by assumption) ?_
        rotate_left
        · intro w' hSw
          go_simp
          all_goals (with_reducible rfl)
        try simp only [Act.put, List.setIfInBounds_toArray, List.set_cons_zero, List.set_cons_succ]
        refine takeD (i := 2) (dst := (some 36)) (v := ?_) rfl rfl (by kernel_rfl) (by kernel_rfl) (by kernel_rfl) (fun _ _ _ h => h) (Or.inl ⟨by rfl, ?_⟩) (by assumption) ?_
        rotate_left
        · intro w' hSw
          go_simp
          all_goals (with_reducible rfl)
        try simp only [Act.put, List.setIfInBounds_toArray, List.set_cons_zero, List.set_cons_succ]
        refine takeD (i := 3) (dst := (some 37)) (v := ?_) rfl rfl (by kernel_rfl) (by kernel_rfl) (by kernel_rfl) (fun _ _ _ h => h) (Or.inl ⟨by rfl, ?_⟩) (by assumption) ?_
        rotate_left
        · intro w' hSw
          go_simp
          all_goals (with_reducible rfl)
        try simp only [Act.put, List.setIfInBounds_toArray, List.set_cons_zero, List.set_cons_succ]
        refine takeD (i := 4) (dst := (some 38)) (v := ?_) rfl rfl (by kernel_rfl) (by kernel_rfl) (by kernel_rfl) (fun _ _ _ h => h) (Or.inl ⟨by rfl, ?_⟩) (by assumption) ?_
        rotate_left
        · intro w' hSw
          go_simp
          all_goals (with_reducible rfl)
        try simp only [Act.put, List.setIfInBounds_toArray, List.set_cons_zero, List.set_cons_succ]
        refine takeD (i := 5) (dst := (some 39)) (v := ?_) rfl rfl (by kernel_rfl) (by kernel_rfl) (by kernel_rfl) (fun _ _ _ h => h) (Or.inl ⟨by rfl, ?_⟩) (by assumption) ?_
        rotate_left
        · intro w' hSw
          go_simp
          all_goals (with_reducible rfl)
        try simp only [Act.put, List.setIfInBounds_toArray, List.set_cons_zero, List.set_cons_succ]
        refine takeD (i := 7) (dst := (some 41)) (v := ?_) rfl rfl (by kernel_rfl) (by kernel_rfl) (by kernel_rfl) (fun _ _ _ h => h) (Or.inl ⟨by rfl, ?_⟩) (by assumption) ?_
        rotate_left
        · intro w' hSw
          go_simp
          all_goals (with_reducible rfl)
        try simp only [Act.put, List.setIfInBounds_toArray, List.set_cons_zero, List.set_cons_succ]
        refine takeD (i := 8) (dst := (some 42)) (v := ?_) rfl rfl (by kernel_rfl) (by kernel_rfl) (by kernel_rfl) (fun _ _ _ h => h) (Or.inl ⟨by rfl, ?_⟩) (by assumption) ?_
        rotate_left
        · intro w' hSw
          go_simp
          all_goals (with_reducible rfl)
        try simp only [Act.put, List.setIfInBounds_toArray, List.set_cons_zero, List.set_cons_succ]
        refine takeD (i := 9) (dst := (some 43)) (v := ?_) rfl rfl (by kernel_rfl) (by kernel_rfl) (by kernel_rfl) (fun _ _ _ h => h) (Or.inl ⟨by rfl, ?_⟩) (by assumption) ?_
        rotate_left
        · intro w' hSw
          go_simp
          all_goals (with_reducible rfl)
        try simp only [Act.put, List.setIfInBounds_toArray, List.set_cons_zero, List.set_cons_succ]
        refine takeD (i := 10) (dst := (some 44)) (v := ?_) rfl rfl (by kernel_rfl) (by kernel_rfl) (by kernel_rfl) (fun _ _ _ h => h) (Or.inl ⟨by rfl, ?_⟩) (by assumption) ?_
        rotate_left
        · intro w' hSw
          go_simp
          all_goals (with_reducible rfl)
        try simp only [Act.put, List.setIfInBounds_toArray, List.set_cons_zero, List.set_cons_succ]

        refine wpAnyH_ready (rs := [6, 11]) (by kernel_rfl) (by simp) ?_
        refine AllReadyH.cons rfl (fun K hK => ?_) (AllReadyH.cons rfl (fun K hK => ?_) AllReadyH.nil)
        · refine step_get_mid Tryd.thash rfl rfl HRA6.out (hcs_length _) rfl ?_
          refine hK.out _ _ trivial (fun hHeld => ?_)
          clear hK K
          try simp only [Act.put, List.setIfInBounds_toArray]
          refine wpAnyH_ready (rs := [11]) (by kernel_rfl) (by simp) ?_
          refine AllReadyH.cons rfl (fun K hK => ?_) AllReadyH.nil
          refine step_get_mid Tryd.thash rfl rfl HRB6.out (hcs_length _) rfl ?_
          refine hK.out _ _ trivial (fun hHeld => ?_)
          clear hK K
          try simp only [Act.put]
          refine wpAnyH_ready (rs := [12]) (by kernel_rfl) (by simp) ?_
          refine AllReadyH.cons rfl (fun K hK => ?_) AllReadyH.nil
          go_simp
          refine HNODE.out.mono ?_
          rintro e w5 ⟨rfl, k5⟩
          have K5 := Lib.hid k5
          clear k5
          go_wp2_with fail
          refine hK.out _ _ trivial (fun hHeld => ?_)
          clear hK K
          refine wpAnyH_ready (rs := [13]) (by kernel_rfl) (by simp) ?_
          refine AllReadyH.cons rfl (fun K hK => ?_) AllReadyH.nil
          refine step_lit (E := _) HT.out rfl rfl [hv (nodeH A B)] rfl (by first | rfl | (simp [Act.eval]; done) | (simp [Act.eval]; rfl)) (hvs_size [nodeH A B]) (by simp) ?_
          refine hK.out (Act.put _ (some 47) _) _ trivial (fun hHeld => ?_)
          clear hK K
          try simp only [Act.put, List.setIfInBounds_toArray, List.set_cons_zero, List.set_cons_succ]
          refine wpAnyH_ready (rs := [14]) (by kernel_rfl) (by simp) ?_
          refine AllReadyH.cons rfl (fun K hK => ?_) AllReadyH.nil
          refine step_append_rd (E := _) HT.out rfl rfl rfl ((own_kept HT2.out ((Kp.refl [] wr).drew.trans K5.out (by simp)) (by simp)).alloc _) rfl (rd_alloc (m := 1) (by rw [flatV_one]; simp [hcs_length]) (by simp [maxLen])) (by rw [flatV_one]; exact hcs_one _) (by omega) (by simp [maxLen]; omega) ?_
          intro a4 c4 w4 o4 g4 f4
          have O4 := Lib.hid o4
          have G4 := Lib.hid g4
          have F4 := Lib.hid f4
          clear o4 g4 f4
          refine hK.out (Act.put _ (some 48) _) _ trivial (fun hHeld => ?_)
          clear hK K
          try simp only [Act.put, List.setIfInBounds_toArray, List.set_cons_zero, List.set_cons_succ]
          refine takeD (i := 15) (dst := (some 3)) (v := ?_) rfl rfl (by kernel_rfl) (by kernel_rfl) (by kernel_rfl) (fun _ _ _ h => h) (Or.inl ⟨by rfl, ?_⟩) trivial ?_
          rotate_left
          · intro w' hSw
            go_simp
            all_goals (with_reducible rfl)
          try simp only [Act.put, List.setIfInBounds_toArray, List.set_cons_zero, List.set_cons_succ]
          refine wpAnyH_done (by kernel_rfl) ?_ _
          go_wp2
          go_roundw
          case rel =>
            have hl9 : s1.length = n + 1 := by rw [HS1'.out, List.length_append, List.length_take, List.length_singleton]; omega
            have kk := HKP.out.trans ((Kp.refl [] wr).drew.trans K5.out (by simp)) (by simp)
            refine ⟨k + 1, s1, a4, c4, by omega, by omega, by go_num, E3.out, by rw [hl9], ?_, fun y hy => ?_, (kk.alloc _).pushed G4.out (fun y hy => .inr (HF.out y hy))⟩
            · have := O4.out
              rw [flatV_one, hsc_take s n (by omega)] at this
              rw [hl9, HS1'.out, hsc_snoc]; exact this
            · rcases F4.out y hy with h | h
              · exact HF.out y h
              · rw [h]; have := kk.size; simp; omega
          case measure => simp [intOf]; omega
        · refine step_get_mid Tryd.thash rfl rfl HRB6.out (hcs_length _) rfl ?_
          refine hK.out _ _ trivial (fun hHeld => ?_)
          clear hK K
          try simp only [Act.put, List.setIfInBounds_toArray]
          refine wpAnyH_ready (rs := [6]) (by kernel_rfl) (by simp) ?_
          refine AllReadyH.cons rfl (fun K hK => ?_) AllReadyH.nil
          refine step_get_mid Tryd.thash rfl rfl HRA6.out (hcs_length _) rfl ?_
          refine hK.out _ _ trivial (fun hHeld => ?_)
          clear hK K
          try simp only [Act.put]
          refine wpAnyH_ready (rs := [12]) (by kernel_rfl) (by simp) ?_
          refine AllReadyH.cons rfl (fun K hK => ?_) AllReadyH.nil
          go_simp
          refine HNODE.out.mono ?_
          rintro e w5 ⟨rfl, k5⟩
          have K5 := Lib.hid k5
          clear k5
          go_wp2_with fail
          refine hK.out _ _ trivial (fun hHeld => ?_)
          clear hK K
          refine wpAnyH_ready (rs := [13]) (by kernel_rfl) (by simp) ?_
          refine AllReadyH.cons rfl (fun K hK => ?_) AllReadyH.nil
          refine step_lit (E := _) HT.out rfl rfl [hv (nodeH A B)] rfl (by first | rfl | (simp [Act.eval]; done) | (simp [Act.eval]; rfl)) (hvs_size [nodeH A B]) (by simp) ?_
          refine hK.out (Act.put _ (some 47) _) _ trivial (fun hHeld => ?_)
          clear hK K
          try simp only [Act.put, List.setIfInBounds_toArray, List.set_cons_zero, List.set_cons_succ]
          refine wpAnyH_ready (rs := [14]) (by kernel_rfl) (by simp) ?_
          refine AllReadyH.cons rfl (fun K hK => ?_) AllReadyH.nil
          refine step_append_rd (E := _) HT.out rfl rfl rfl ((own_kept HT2.out ((Kp.refl [] wr).drew.trans K5.out (by simp)) (by simp)).alloc _) rfl (rd_alloc (m := 1) (by rw [flatV_one]; simp [hcs_length]) (by simp [maxLen])) (by rw [flatV_one]; exact hcs_one _) (by omega) (by simp [maxLen]; omega) ?_
          intro a4 c4 w4 o4 g4 f4
          have O4 := Lib.hid o4
          have G4 := Lib.hid g4
          have F4 := Lib.hid f4
          clear o4 g4 f4
          refine hK.out (Act.put _ (some 48) _) _ trivial (fun hHeld => ?_)
          clear hK K
          try simp only [Act.put, List.setIfInBounds_toArray, List.set_cons_zero, List.set_cons_succ]
          refine takeD (i := 15) (dst := (some 3)) (v := ?_) rfl rfl (by kernel_rfl) (by kernel_rfl) (by kernel_rfl) (fun _ _ _ h => h) (Or.inl ⟨by rfl, ?_⟩) trivial ?_
          rotate_left
          · intro w' hSw
            go_simp
            all_goals (with_reducible rfl)
          try simp only [Act.put, List.setIfInBounds_toArray, List.set_cons_zero, List.set_cons_succ]
          refine wpAnyH_done (by kernel_rfl) ?_ _
          go_wp2
          go_roundw
          case rel =>
            have hl9 : s1.length = n + 1 := by rw [HS1'.out, List.length_append, List.length_take, List.length_singleton]; omega
            have kk := HKP.out.trans ((Kp.refl [] wr).drew.trans K5.out (by simp)) (by simp)
            refine ⟨k + 1, s1, a4, c4, by omega, by omega, by go_num, E3.out, by rw [hl9], ?_, fun y hy => ?_, (kk.alloc _).pushed G4.out (fun y hy => .inr (HF.out y hy))⟩
            · have := O4.out
              rw [flatV_one, hsc_take s n (by omega)] at this
              rw [hl9, HS1'.out, hsc_snoc]; exact this
            · rcases F4.out y hy with h | h
              · exact HF.out y h
              · rw [h]; have := kk.size; simp; omega
          case measure => simp [intOf]; omega
    · obtain rfl : k = ops.length := by omega
      rw [List.take_length] at hs
      obtain rfl : s = [r] := (Option.some.inj (HRUN.out.symm.trans hs)).symm
      obtain ⟨b1, o1, rfl, _, hc1⟩ := (own_rd hown).spot (by rw [hsc_length]; simp)
      have HRA := Lib.hid (rd_hash hc1 0 (by simp))
      have HG2 := Lib.hid ((hkp.block w.heap.size HS1.out (by simp)).trans HGR1.out)
      have KK := Lib.hid (K1.out.trans hkp (by simp))
      clear hc1 hs hown hF hkp hlt hk
      go_wp2_with (first | (refine wpList_get_mid Tryd.thash rfl rfl HRA.out (hcs_length _) rfl ?_) | (refine wpList_set Tryd.thash rfl rfl HG2.out (hvA_size _) (hvA_size _) (hvA_one _) rfl rfl ?_; intro w9 h9 k9 s9))
      refine ret_block Tryd.thash rfl h9 (hvA_size _) rfl rfl ⟨rfl, ?_⟩
      exact KK.out.trans k9 (fun x hx hlt => by simp at hx; omega)
end Go.Proofs.YtgfppmnpccaloaaDoor
