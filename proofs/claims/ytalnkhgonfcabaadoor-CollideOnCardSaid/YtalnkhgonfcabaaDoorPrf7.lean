/-
  proof.Both, between. (Printed by gen_prf7.py.)
-/
import Derived.Test.YtalnkhgonfcabaaDoorPrf6
namespace Go.Proofs.YtalnkhgonfcabaaDoor
open Go.RowKit

def bothX (x y : Nat) (old : Hsh) (ps : List Hsh) : Option (Hsh × Hsh) := if 0 < x then (match ps with
  | [] => none
  | q :: qs => bothF x y q q qs) else bothF x y old old ps
theorem bothR_st (m n : Nat) (old : Hsh) (ps : List Hsh) (x y : Nat) (h : st (m - 1) (n - 1) = (x, y)) : bothR m n old ps = bothX x y old ps := by
  unfold bothR bothX; rw [h]; rfl
theorem bothX_zero (y : Nat) (old : Hsh) (ps : List Hsh) : bothX 0 y old ps = bothF 0 y old old ps := rfl
theorem bothX_nil (x y : Nat) (old : Hsh) (h : 0 < x) : bothX x y old [] = none := by unfold bothX; rw [if_pos h]
theorem bothX_cons (x y : Nat) (old q : Hsh) (qs : List Hsh) (h : 0 < x) : bothX x y old (q :: qs) = bothF x y q q qs := by unfold bothX; rw [if_pos h]

set_option maxRecDepth 100000 in
set_option maxHeartbeats 4000000 in
theorem both_mid (m n : Nat) (old : Hsh) (ps : List Hsh) (a : Option Addr) (c : Nat) (w : World) (hr : Rd w a ps.length c 32 (hsc ps)) (h1 : 1 ≤ m) (hmn : m < n) (hb : n ≤ 1152921504606846976) (hL : Laid w) (h2 : 4 ≤ w.heap.size) :
    Calls Tryd.prog 108 #[.int .i64 m, .int .i64 n, hv old, .slice a ps.length c] w fun e w' => e = .returned (bothV (bothR m n old ps)) ∧ Kp [] w w' := by
  obtain ⟨o, ho⟩ : ∃ o, o = bothR m n old ps := ⟨_, rfl⟩
  rw [← ho]
  have HO0 := Lib.hid ho
  have HR := Lib.hid hr
  have HL := Lib.hid hL
  have HG6 := Lib.hid (alloc3a w (hvA old) (hvA zeroH) (hvA zeroH) 33 33 33)
  have HG8 := Lib.hid (alloc3b w (hvA old) (hvA zeroH) (hvA zeroH) 33 33 33)
  have HG9 := Lib.hid (alloc3 w (hvA old) (hvA zeroH) (hvA zeroH) 33 33 33)
  have K0 := Lib.hid ((((Kp.refl [] w).alloc (.cells (hvA old) 33)).alloc (.cells (hvA zeroH) 33)).alloc (.cells (hvA zeroH) 33))
  obtain ⟨w0, hw0⟩ : ∃ w0, w0 = (((w.alloc (.cells (hvA old) 33)).alloc (.cells (hvA zeroH) 33)).alloc (.cells (hvA zeroH) 33)) := ⟨_, rfl⟩
  rw [← hw0] at HG6 HG8 HG9 K0
  have HW0 := Lib.hid hw0
  have d1 : ¬ (m : Int) < 0 := by omega
  have d2 : ¬ (m : Int) > (n : Int) := by omega
  have d3 : ((m : Int) == 0) = false := by rw [beq_eq_false_iff_ne]; omega
  have d4 : ((m : Int) == (n : Int)) = false := by rw [beq_eq_false_iff_ne]; omega
  have d5 : IntKind.i64.wrap ((m : Int) - 1) = ((m - 1 : Nat) : Int) := by rw [IntWalk.i64_in _ (by omega)]; omega
  have d6 : IntKind.i64.wrap ((n : Int) - 1) = ((n - 1 : Nat) : Int) := by rw [IntWalk.i64_in _ (by omega)]; omega
  obtain ⟨m1, hm1⟩ : ∃ m1, m1 = m - 1 := ⟨_, rfl⟩
  obtain ⟨z, hz⟩ : ∃ z, z = n - 1 := ⟨_, rfl⟩
  rw [← hm1] at d5
  rw [← hz] at d6
  have HM1 := Lib.hid hm1
  have HZ := Lib.hid hz
  have hmz : m1 ≤ z := by omega
  have hzn : z ≤ n := by omega
  have hmax := hr.le
  have hmax2 := hr.max
  unfold maxLen at hmax2
  clear hr hL hw0 ho hm1 hz
  go_enter Tryd.func108, Tryd.ntmps108
  go_wp2_with fail
  rw [zeroH_lit, show ((w.alloc (.cells (hvA old) 33)).alloc (.cells (hvA zeroH) 33)).alloc (.cells (hvA zeroH) 33) = w0 from HW0.out.symm]
  obtain ⟨n0, hn0⟩ : ∃ n0, n0 = w.heap.size := ⟨_, rfl⟩
  have HN0 := Lib.hid hn0
  rw [← hn0] at HG6 HG8 HG9 ⊢
  have hn2 : 4 ≤ n0 := by rw [hn0]; exact h2
  clear hn0
  go_loopw [11, 12] (fun v11 v12 wr => ∃ x y : Nat, v11 = .int .i64 x ∧ v12 = .int .i64 y ∧ x ≤ y ∧ y ≤ n ∧ st x y = st m1 z ∧ wr = w0) (fun v11 _ _ => (intOf v11).toNat)
  case atStart => exact ⟨m1, z, rfl, rfl, hmz, hzn, rfl, rfl⟩
  case round =>
    obtain ⟨x, y, rfl, rfl, hxy, hyn, hst, rfl⟩ := hrel
    have HST := Lib.hid hst
    clear hst
    by_cases hx : x % 2 = 1
    · have hx1 : ((x : Int) % 2 == 1) = true := by rw [beq_iff_eq]; omega
      have HX := Lib.hid hx
      clear hx
      go_wp2_with fail
      go_roundw
      case rel => exact ⟨x / 2, y / 2, by go_num, by go_num, by omega, by omega, by rw [← HST.out, st_odd x y HX.out], by simp⟩
      case measure => simp [intOf]; have := HX.out; omega
    · have hx1 : ((x : Int) % 2 == 1) = false := by rw [beq_eq_false_iff_ne]; omega
      have hste : st m1 z = (x, y) := by rw [← HST.out, st_even x y (by omega)]
      have hbr : bothR m n old ps = bothX x y old ps := bothR_st m n old ps x y (by rw [← HM1.out, ← HZ.out]; exact hste)
      rw [← HO0.out] at hbr
      clear hx hste
      by_cases hx0 : x = 0
      · subst hx0
        rw [bothX_zero] at hbr
        have HOO := Lib.hid hbr.symm
        clear hbr
        have tokA : True := trivial
        have tokB : True := trivial
        go_wp2_with (first
          | (have _t := tokA; refine wpList_get Tryd.thash rfl rfl HG6.out (hvA_size _) rfl ?_)
          | (have _t := tokA; refine wpList_set Tryd.thash rfl rfl HG8.out (hvA_size _) (hvA_size old) (hvA_one _) rfl rfl ?_; clear tokA; intro w8 h8 k8 s8; have H8 := Lib.hid h8; have K8 := Lib.hid (K0.out.trans k8 (fun x hx hlt => by simp at hx; rw [← HN0.out] at hlt; omega)); have HG98 := Lib.hid ((k8.block _ (lt_of_block HG9.out) (by simp)).trans HG9.out); clear h8 k8 s8)
          | (refine wpList_get Tryd.thash rfl rfl H8.out (hvA_size _) rfl ?_)
          | (have _t := tokB; refine wpList_set Tryd.thash rfl rfl HG98.out (hvA_size _) (hvA_size old) (hvA_one _) rfl rfl ?_; clear tokB; intro w9 h9 k9 s9; have H9L := Lib.hid h9; have KL := Lib.hid (K8.out.trans k9 (fun x hx hlt => by simp at hx; rw [← HN0.out] at hlt; omega)); have H8L := Lib.hid ((k9.block _ (lt_of_block H8.out) (by simp)).trans H8.out); clear h9 k9 s9))
        have HRL := HR
        go_loopw [11, 12, 77] (fun v11 v12 v77 wr => ∃ (k x y : Nat) (f s : Hsh), k ≤ ps.length ∧ v11 = .int .i64 x ∧ v12 = .int .i64 y ∧ x ≤ y ∧ y ≤ n ∧ v77 = .int .i64 k ∧ bothF x y f s (ps.drop k) = o ∧ wr.heap[n0 + 1]? = some (.cells (hvA f) 33 (0, 0)) ∧ wr.heap[n0 + 1 + 1]? = some (.cells (hvA s) 33 (0, 0)) ∧ Kp [] w wr) (fun _ _ v77 _ => ps.length - (intOf v77).toNat)
        case atStart => exact ⟨0, 0, y, old, old, by omega, rfl, rfl, hxy, hyn, rfl, by rw [List.drop_zero]; exact HOO.out, H8L.out, H9L.out, KL.out⟩
        case round =>
          obtain ⟨k, x, y, f, s, hk, rfl, rfl, hxy, hyz, rfl, hld, g8, g9, hkp⟩ := hrel
          have HLD := Lib.hid hld
          have G8 := Lib.hid g8
          have G9 := Lib.hid g9
          have HKP := Lib.hid hkp
          clear hld g8 g9
          by_cases hlt : k < ps.length
          · obtain ⟨b, off, hsla, _, hcs⟩ := (HRL.out.below hkp).spot (by rw [hsc_length]; omega)
            subst hsla
            have hra := rd_hash hcs k hlt
            have hdr : ps.drop k = ps[k] :: ps.drop (k + 1) := List.drop_eq_getElem_cons hlt
            obtain ⟨p, hp⟩ : ∃ p, p = ps[k] := ⟨_, rfl⟩
            rw [← hp] at hra hdr
            have HRA := Lib.hid hra
            have HDR := Lib.hid hdr
            have HSZ := Lib.hid hkp.size
            have hlt12 : n0 + 1 + 1 < wr.heap.size := lt_of_block G9.out
            clear hkp hcs hra hdr hp
            by_cases hy0 : y = 0
            · subst hy0
              have tokA : True := trivial
              go_wp2_with (first | (refine wpList_get_mid Tryd.thash rfl rfl HRA.out (hcs_length _) rfl ?_) | (refine wpList_set Tryd.thash rfl rfl (heap_alloc_new wr _) (hvA_size zeroH) (hvA_size p) (hvA_one _) rfl rfl ?_; intro w5 h5 k5 s5; have K5 := Lib.hid (((Kp.refl [] wr).alloc (.cells (hvA zeroH) 33)).trans k5 (fun x hx hlt => by simp at hx; omega)); have G85 := Lib.hid ((K5.out.block _ (lt_of_block G8.out) (by simp)).trans G8.out); have G95 := Lib.hid ((K5.out.block _ (lt_of_block G9.out) (by simp)).trans G9.out); clear h5 k5 s5) | (have _t := tokA; refine wpList_set Tryd.thash rfl rfl G85.out (hvA_size _) (hvA_size zeroH) (hvA_one _) rfl rfl ?_; clear tokA; intro w7 h7 k7 s7; have H7 := Lib.hid h7; have K7 := Lib.hid ((HKP.out.trans K5.out (by simp)).trans k7 (fun x hx hlt => by simp at hx; rw [← HN0.out] at hlt; omega)); have G97 := Lib.hid ((k7.block _ (lt_of_block G95.out) (by simp)).trans G95.out); clear h7 k7 s7) | (refine wpList_set Tryd.thash rfl rfl G97.out (hvA_size _) (hvA_size zeroH) (hvA_one _) rfl rfl ?_; intro w9 h9 k9 s9))
              refine ret_block2_tmp Tryd.thash rfl ((k9.block _ (lt_of_block H7.out) (by simp)).trans H7.out) (hvA_size _) rfl h9 (hvA_size _) rfl rfl rfl ⟨?_, ?_⟩
              · rw [← HLD.out, HDR.out, bothF, if_pos rfl]; rfl
              · exact K7.out.trans k9 (fun x hx hlt => by simp at hx; rw [← HN0.out] at hlt; omega)
            · have hy1 : ((y : Int) == 0) = false := by rw [beq_eq_false_iff_ne]; omega
              have HY0 := Lib.hid hy0
              clear hy0
              by_cases hx : x % 2 = 1
              · have hx1 : ((x : Int) % 2 == 1) = true := by rw [beq_iff_eq]; omega
                have HX := Lib.hid hx
                go_wp2_with (first | (refine wpList_get_mid Tryd.thash rfl rfl HRA.out (hcs_length _) rfl ?_) | (refine wpList_set Tryd.thash rfl rfl (heap_alloc_new wr _) (hvA_size zeroH) (hvA_size p) (hvA_one _) rfl rfl ?_; intro w5 h5 k5 s5; have K15 := Lib.hid (((Kp.refl [] wr).alloc (.cells (hvA zeroH) 33)).trans k5 (fun x hx hlt => by simp at hx; omega)); have K5 := Lib.hid (HKP.out.trans K15.out (by simp)); have ROW_8 := Lib.hid ((K15.out.block _ (lt_of_block G8.out) (by simp)).trans G8.out); have ROW_9 := Lib.hid ((K15.out.block _ (lt_of_block G9.out) (by simp)).trans G9.out); have H14 := Lib.hid h5; have HN2 := Lib.hid (Nat.le_trans h2 K5.out.size); clear h5 k5 s5))
                refine wp_region_inv (by kernel_rfl) (fun a0 w0 l a w => ∃ b0 b1 b2 b3 b4 b5 b6 b7 : Bool, l = #[b0, b1, b2, b3, b4, b5, b6, b7] ∧ Same [93, 94, 95, 96, 97, 98] a0 a ∧ (b0 = true → a.tmps[93]? = some (.agg (hcs p).toArray)) ∧ (b1 = true → a.tmps[94]? = some (.agg (hcs f).toArray)) ∧ (b2 = true → a.tmps[95]? = some (.agg (hcs (nodeH p f)).toArray)) ∧ (b3 = true → a.tmps[96]? = some (.agg (hcs p).toArray)) ∧ (b4 = true → a.tmps[97]? = some (.agg (hcs s).toArray)) ∧ (b5 = true → a.tmps[98]? = some (.agg (hcs (nodeH p s)).toArray)) ∧ w.heap[n0 + 1]? = some (.cells (hvA (if b6 = true then nodeH p f else f)) 33 (0, 0)) ∧ w.heap[n0 + 1 + 1]? = some (.cells (hvA (if b7 = true then nodeH p s else s)) 33 (0, 0)) ∧ Kp [n0 + 1, n0 + 1 + 1] w0 w ∧ (b6 = true → b1 = true) ∧ (b7 = true → b4 = true)) ?_ ?_ ?_
                · exact ⟨false, false, false, false, false, false, false, false, rfl, Same.refl _ _, by simp, by simp, by simp, by simp, by simp, by simp, ROW_8.out.drewB, ROW_9.out.drewB, (Kp.refl _ _).drew, by simp, by simp⟩
                · intro l a w i hI hi
                  obtain ⟨b0, b1, b2, b3, b4, b5, b6, b7, rfl, hS, c0, c1, c2, c3, c4, c5, row_8, row_9, hk, q6_1, q7_4⟩ := hI
                  obtain ⟨hbi, o, ho, hdep⟩ := mem_ready.1 hi
                  have hlt : i < 8 := (Array.getElem?_eq_some_iff.1 ho).1
                  rcases (by omega : i = 0 ∨ i = 1 ∨ i = 2 ∨ i = 3 ∨ i = 4 ∨ i = 5 ∨ i = 6 ∨ i = 7) with rfl | rfl | rfl | rfl | rfl | rfl | rfl | rfl
                  · obtain rfl := Option.some.inj ho
                    have hb : b0 = false := by simpa using hbi
                    clear hdep hbi hi ho hlt
                    subst hb
                    refine wpOp_of rfl rfl ?_
                    refine wp_load_mid Tryd.thash rfl (cs := hcs (p)) (range_hv ((hk.block _ (lt_of_block H14.out) (by simp; omega)).trans H14.out)) (hcs_length _) ((hS.eval 14 (by decide)).trans rfl) ?_
                    exact ⟨true, b1, b2, b3, b4, b5, b6, b7, rfl, hS.put 93 _ (by simp), fun _ => put_self _ _ _ (by rw [hS.2.1]; exact Nat.le_of_ble_eq_true (by kernel_rfl)), fun h => (put_other _ _ _ _ (by decide)).trans (c1 h), fun h => (put_other _ _ _ _ (by decide)).trans (c2 h), fun h => (put_other _ _ _ _ (by decide)).trans (c3 h), fun h => (put_other _ _ _ _ (by decide)).trans (c4 h), fun h => (put_other _ _ _ _ (by decide)).trans (c5 h), row_8, row_9, hk, q6_1, q7_4⟩
                  · obtain rfl := Option.some.inj ho
                    have hb : b1 = false := by simpa using hbi
                    clear hdep hbi hi ho hlt
                    subst hb
                    have hns : b6 = false := by cases hh : b6 with | false => rfl | true => exact absurd (q6_1 hh) (by simp)
                    subst hns
                    refine wpOp_of rfl rfl ?_
                    refine wp_load_mid Tryd.thash rfl (cs := hcs (f)) (range_hv (by simpa using row_8)) (hcs_length _) ((hS.eval 8 (by decide)).trans rfl) ?_
                    exact ⟨b0, true, b2, b3, b4, b5, false, b7, rfl, hS.put 94 _ (by simp), fun h => (put_other _ _ _ _ (by decide)).trans (c0 h), fun _ => put_self _ _ _ (by rw [hS.2.1]; exact Nat.le_of_ble_eq_true (by kernel_rfl)), fun h => (put_other _ _ _ _ (by decide)).trans (c2 h), fun h => (put_other _ _ _ _ (by decide)).trans (c3 h), fun h => (put_other _ _ _ _ (by decide)).trans (c4 h), fun h => (put_other _ _ _ _ (by decide)).trans (c5 h), row_8, row_9, hk, fun _ => rfl, q7_4⟩
                  · obtain rfl := Option.some.inj ho
                    have hb : b2 = false := by simpa using hbi
                    have e0 : b0 = true := by revert hdep; cases b0 <;> simp [Region.binds]
                    have e1 : b1 = true := by revert hdep; cases b1 <;> simp [Region.binds]
                    clear hdep hbi hi ho hlt
                    subst hb
                    subst e0
                    subst e1
                    refine wpOp_of rfl rfl ?_
                    refine wp_node rfl (x := p) (y := f) (eval_at (c0 rfl)) (eval_at (c1 rfl)) ((HL.out.below K5.out).kept hk (by simp; omega)) (Nat.le_trans (HN2.out) hk.size) ?_
                    intro w2 k2
                    exact ⟨true, true, true, b3, b4, b5, b6, b7, rfl, hS.put 95 _ (by simp), fun h => (put_other _ _ _ _ (by decide)).trans (c0 h), fun h => (put_other _ _ _ _ (by decide)).trans (c1 h), fun _ => put_self _ _ _ (by rw [hS.2.1]; exact Nat.le_of_ble_eq_true (by kernel_rfl)), fun h => (put_other _ _ _ _ (by decide)).trans (c3 h), fun h => (put_other _ _ _ _ (by decide)).trans (c4 h), fun h => (put_other _ _ _ _ (by decide)).trans (c5 h), ((k2.block _ (lt_of_block row_8) (by simp)).trans row_8), ((k2.block _ (lt_of_block row_9) (by simp)).trans row_9), hk.trans k2 (by simp), fun _ => rfl, q7_4⟩
                  · obtain rfl := Option.some.inj ho
                    have hb : b3 = false := by simpa using hbi
                    clear hdep hbi hi ho hlt
                    subst hb
                    refine wpOp_of rfl rfl ?_
                    refine wp_load_mid Tryd.thash rfl (cs := hcs (p)) (range_hv ((hk.block _ (lt_of_block H14.out) (by simp; omega)).trans H14.out)) (hcs_length _) ((hS.eval 14 (by decide)).trans rfl) ?_
                    exact ⟨b0, b1, b2, true, b4, b5, b6, b7, rfl, hS.put 96 _ (by simp), fun h => (put_other _ _ _ _ (by decide)).trans (c0 h), fun h => (put_other _ _ _ _ (by decide)).trans (c1 h), fun h => (put_other _ _ _ _ (by decide)).trans (c2 h), fun _ => put_self _ _ _ (by rw [hS.2.1]; exact Nat.le_of_ble_eq_true (by kernel_rfl)), fun h => (put_other _ _ _ _ (by decide)).trans (c4 h), fun h => (put_other _ _ _ _ (by decide)).trans (c5 h), row_8, row_9, hk, q6_1, q7_4⟩
                  · obtain rfl := Option.some.inj ho
                    have hb : b4 = false := by simpa using hbi
                    clear hdep hbi hi ho hlt
                    subst hb
                    have hns : b7 = false := by cases hh : b7 with | false => rfl | true => exact absurd (q7_4 hh) (by simp)
                    subst hns
                    refine wpOp_of rfl rfl ?_
                    refine wp_load_mid Tryd.thash rfl (cs := hcs (s)) (range_hv (by simpa using row_9)) (hcs_length _) ((hS.eval 9 (by decide)).trans rfl) ?_
                    exact ⟨b0, b1, b2, b3, true, b5, b6, false, rfl, hS.put 97 _ (by simp), fun h => (put_other _ _ _ _ (by decide)).trans (c0 h), fun h => (put_other _ _ _ _ (by decide)).trans (c1 h), fun h => (put_other _ _ _ _ (by decide)).trans (c2 h), fun h => (put_other _ _ _ _ (by decide)).trans (c3 h), fun _ => put_self _ _ _ (by rw [hS.2.1]; exact Nat.le_of_ble_eq_true (by kernel_rfl)), fun h => (put_other _ _ _ _ (by decide)).trans (c5 h), row_8, row_9, hk, q6_1, fun _ => rfl⟩
                  · obtain rfl := Option.some.inj ho
                    have hb : b5 = false := by simpa using hbi
                    have e2 : b2 = true := by revert hdep; cases b2 <;> simp [Region.binds]
                    have e3 : b3 = true := by revert hdep; cases b3 <;> simp [Region.binds]
                    have e4 : b4 = true := by revert hdep; cases b4 <;> simp [Region.binds]
                    clear hdep hbi hi ho hlt
                    subst hb
                    subst e2
                    subst e3
                    subst e4
                    refine wpOp_of rfl rfl ?_
                    refine wp_node rfl (x := p) (y := s) (eval_at (c3 rfl)) (eval_at (c4 rfl)) ((HL.out.below K5.out).kept hk (by simp; omega)) (Nat.le_trans (HN2.out) hk.size) ?_
                    intro w2 k2
                    exact ⟨b0, b1, true, true, true, true, b6, b7, rfl, hS.put 98 _ (by simp), fun h => (put_other _ _ _ _ (by decide)).trans (c0 h), fun h => (put_other _ _ _ _ (by decide)).trans (c1 h), fun h => (put_other _ _ _ _ (by decide)).trans (c2 h), fun h => (put_other _ _ _ _ (by decide)).trans (c3 h), fun h => (put_other _ _ _ _ (by decide)).trans (c4 h), fun _ => put_self _ _ _ (by rw [hS.2.1]; exact Nat.le_of_ble_eq_true (by kernel_rfl)), ((k2.block _ (lt_of_block row_8) (by simp)).trans row_8), ((k2.block _ (lt_of_block row_9) (by simp)).trans row_9), hk.trans k2 (by simp), q6_1, fun _ => rfl⟩
                  · obtain rfl := Option.some.inj ho
                    have hb : b6 = false := by simpa using hbi
                    have e0 : b0 = true := by revert hdep; cases b0 <;> simp [Region.binds]
                    have e1 : b1 = true := by revert hdep; cases b1 <;> simp [Region.binds]
                    have e2 : b2 = true := by revert hdep; cases b2 <;> simp [Region.binds]
                    have e5 : b5 = true := by revert hdep; cases b5 <;> simp [Region.binds]
                    clear hdep hbi hi ho hlt
                    subst hb
                    subst e0
                    subst e1
                    subst e2
                    subst e5
                    refine wpOp_of rfl rfl ?_
                    refine wp_store_hash Tryd.thash rfl row_8 (hvA_size _) (hvA_size (nodeH p f)) (hvA_one _) ((hS.eval 8 (by decide)).trans rfl) (eval_at (c2 rfl)) ?_
                    intro w2 hg2 k2 s2
                    exact ⟨true, true, true, b3, b4, true, true, b7, rfl, hS, c0, c1, c2, c3, c4, c5, (by simpa using hg2), ((k2.block _ (lt_of_block row_9) (by simp)).trans row_9), hk.trans k2 (fun x hx _ => by simp at hx; simp [hx]), fun _ => rfl, q7_4⟩
                  · obtain rfl := Option.some.inj ho
                    have hb : b7 = false := by simpa using hbi
                    have e0 : b0 = true := by revert hdep; cases b0 <;> simp [Region.binds]
                    have e1 : b1 = true := by revert hdep; cases b1 <;> simp [Region.binds]
                    have e2 : b2 = true := by revert hdep; cases b2 <;> simp [Region.binds]
                    have e3 : b3 = true := by revert hdep; cases b3 <;> simp [Region.binds]
                    have e4 : b4 = true := by revert hdep; cases b4 <;> simp [Region.binds]
                    have e5 : b5 = true := by revert hdep; cases b5 <;> simp [Region.binds]
                    have e6 : b6 = true := by revert hdep; cases b6 <;> simp [Region.binds]
                    clear hdep hbi hi ho hlt
                    subst hb
                    subst e0
                    subst e1
                    subst e2
                    subst e3
                    subst e4
                    subst e5
                    subst e6
                    refine wpOp_of rfl rfl ?_
                    refine wp_store_hash Tryd.thash rfl row_9 (hvA_size _) (hvA_size (nodeH p s)) (hvA_one _) ((hS.eval 9 (by decide)).trans rfl) (eval_at (c5 rfl)) ?_
                    intro w2 hg2 k2 s2
                    exact ⟨true, true, true, true, true, true, true, true, rfl, hS, c0, c1, c2, c3, c4, c5, ((k2.block _ (lt_of_block row_8) (by simp)).trans row_8), (by simpa using hg2), hk.trans k2 (fun x hx _ => by simp at hx; simp [hx]), fun _ => rfl, fun _ => rfl⟩
                · intro l a w hI hr
                  obtain ⟨b0, b1, b2, b3, b4, b5, b6, b7, rfl, hS, c0, c1, c2, c3, c4, c5, row_8, row_9, hk, q6_1, q7_4⟩ := hI
                  have f0 : b0 = true := by
                    cases hh : b0 with
                    | true => rfl
                    | false =>
                      refine absurd ?_ (List.not_mem_nil (a := 0))
                      rw [← hr]
                      exact mem_ready.2 ⟨by simpa using hh, _, rfl, by simp [Region.binds]⟩
                  subst f0
                  have f1 : b1 = true := by
                    cases hh : b1 with
                    | true => rfl
                    | false =>
                      refine absurd ?_ (List.not_mem_nil (a := 1))
                      rw [← hr]
                      exact mem_ready.2 ⟨by simpa using hh, _, rfl, by simp [Region.binds]⟩
                  subst f1
                  have f2 : b2 = true := by
                    cases hh : b2 with
                    | true => rfl
                    | false =>
                      refine absurd ?_ (List.not_mem_nil (a := 2))
                      rw [← hr]
                      exact mem_ready.2 ⟨by simpa using hh, _, rfl, by simp [Region.binds]⟩
                  subst f2
                  have f3 : b3 = true := by
                    cases hh : b3 with
                    | true => rfl
                    | false =>
                      refine absurd ?_ (List.not_mem_nil (a := 3))
                      rw [← hr]
                      exact mem_ready.2 ⟨by simpa using hh, _, rfl, by simp [Region.binds]⟩
                  subst f3
                  have f4 : b4 = true := by
                    cases hh : b4 with
                    | true => rfl
                    | false =>
                      refine absurd ?_ (List.not_mem_nil (a := 4))
                      rw [← hr]
                      exact mem_ready.2 ⟨by simpa using hh, _, rfl, by simp [Region.binds]⟩
                  subst f4
                  have f5 : b5 = true := by
                    cases hh : b5 with
                    | true => rfl
                    | false =>
                      refine absurd ?_ (List.not_mem_nil (a := 5))
                      rw [← hr]
                      exact mem_ready.2 ⟨by simpa using hh, _, rfl, by simp [Region.binds]⟩
                  subst f5
                  have f6 : b6 = true := by
                    cases hh : b6 with
                    | true => rfl
                    | false =>
                      refine absurd ?_ (List.not_mem_nil (a := 6))
                      rw [← hr]
                      exact mem_ready.2 ⟨by simpa using hh, _, rfl, by simp [Region.binds]⟩
                  subst f6
                  have f7 : b7 = true := by
                    cases hh : b7 with
                    | true => rfl
                    | false =>
                      refine absurd ?_ (List.not_mem_nil (a := 7))
                      rw [← hr]
                      exact mem_ready.2 ⟨by simpa using hh, _, rfl, by simp [Region.binds]⟩
                  subst f7
                  obtain rfl := Same.eq ((((((hS.take (c0 rfl)).take (c1 rfl)).take (c2 rfl)).take (c3 rfl)).take (c4 rfl)).take (c5 rfl))
                  simp only [if_true] at row_8
                  simp only [if_true] at row_9
                  try simp only [Act.put, List.setIfInBounds_toArray, List.set_cons_zero, List.set_cons_succ]
                  have K7 := Lib.hid (K5.out.trans hk (fun x hx hlt => by simp at hx; rw [← HN0.out] at hlt; omega))
                  have H8 := Lib.hid row_8
                  have H9 := Lib.hid row_9
                  clear hr hk row_8 row_9 c0 c1 c2 c3 c4 c5 q6_1 q7_4 hS
                  go_wp2_with fail
                  refine (climb_odd x y _ HX.out).mono ?_
                  rintro e w8 ⟨rfl, rfl⟩
                  clear hx
                  go_wp2
                  go_roundw
                  case rel =>
                    refine ⟨k + 1, x / 2, y / 2, nodeH p f, nodeH p s, by omega, by go_num, by go_num, by omega, by omega, by go_num, ?_, H8.out, H9.out, K7.out⟩
                    rw [← HLD.out, HDR.out, bothF, if_neg HY0.out, if_pos HX.out]
                  case measure => simp [intOf]; omega
              · have HX := Lib.hid hx
                by_cases hl : x = y
                · subst hl
                  have hx1 : ((x : Int) % 2 == 1) = false := by rw [beq_eq_false_iff_ne]; omega
                  have hxp : 0 < x := by have := HY0.out; omega
                  have hod := odd_le x
                  obtain ⟨od, ho⟩ : ∃ od, od = odd x := ⟨_, rfl⟩
                  rw [← ho] at hod
                  have HO := Lib.hid ho
                  have HC := Lib.hid (fun W => climb_same x W hxp (by omega))
                  rw [← ho] at HC
                  clear hx ho
                  go_wp2_with (first | (refine wpList_get_mid Tryd.thash rfl rfl HRA.out (hcs_length _) rfl ?_) | (refine wpList_set Tryd.thash rfl rfl (heap_alloc_new wr _) (hvA_size zeroH) (hvA_size p) (hvA_one _) rfl rfl ?_; intro w5 h5 k5 s5; have K15 := Lib.hid (((Kp.refl [] wr).alloc (.cells (hvA zeroH) 33)).trans k5 (fun x hx hlt => by simp at hx; omega)); have K5 := Lib.hid (HKP.out.trans K15.out (by simp)); have ROW_8 := Lib.hid ((K15.out.block _ (lt_of_block G8.out) (by simp)).trans G8.out); have ROW_9 := Lib.hid ((K15.out.block _ (lt_of_block G9.out) (by simp)).trans G9.out); have H14 := Lib.hid h5; have HN2 := Lib.hid (Nat.le_trans h2 K5.out.size); clear h5 k5 s5))
                  refine wp_region_inv (by kernel_rfl) (fun a0 w0 l a w => ∃ b0 b1 b2 b3 b4 b5 b6 b7 : Bool, l = #[b0, b1, b2, b3, b4, b5, b6, b7] ∧ Same [93, 94, 95, 96, 97, 98] a0 a ∧ (b0 = true → a.tmps[93]? = some (.agg (hcs p).toArray)) ∧ (b1 = true → a.tmps[94]? = some (.agg (hcs f).toArray)) ∧ (b2 = true → a.tmps[95]? = some (.agg (hcs (nodeH p f)).toArray)) ∧ (b3 = true → a.tmps[96]? = some (.agg (hcs p).toArray)) ∧ (b4 = true → a.tmps[97]? = some (.agg (hcs s).toArray)) ∧ (b5 = true → a.tmps[98]? = some (.agg (hcs (nodeH p s)).toArray)) ∧ w.heap[n0 + 1]? = some (.cells (hvA (if b6 = true then nodeH p f else f)) 33 (0, 0)) ∧ w.heap[n0 + 1 + 1]? = some (.cells (hvA (if b7 = true then nodeH p s else s)) 33 (0, 0)) ∧ Kp [n0 + 1, n0 + 1 + 1] w0 w ∧ (b6 = true → b1 = true) ∧ (b7 = true → b4 = true)) ?_ ?_ ?_
                  · exact ⟨false, false, false, false, false, false, false, false, rfl, Same.refl _ _, by simp, by simp, by simp, by simp, by simp, by simp, ROW_8.out.drewB, ROW_9.out.drewB, (Kp.refl _ _).drew, by simp, by simp⟩
                  · intro l a w i hI hi
                    obtain ⟨b0, b1, b2, b3, b4, b5, b6, b7, rfl, hS, c0, c1, c2, c3, c4, c5, row_8, row_9, hk, q6_1, q7_4⟩ := hI
                    obtain ⟨hbi, o, ho, hdep⟩ := mem_ready.1 hi
                    have hlt : i < 8 := (Array.getElem?_eq_some_iff.1 ho).1
                    rcases (by omega : i = 0 ∨ i = 1 ∨ i = 2 ∨ i = 3 ∨ i = 4 ∨ i = 5 ∨ i = 6 ∨ i = 7) with rfl | rfl | rfl | rfl | rfl | rfl | rfl | rfl
                    · obtain rfl := Option.some.inj ho
                      have hb : b0 = false := by simpa using hbi
                      clear hdep hbi hi ho hlt
                      subst hb
                      refine wpOp_of rfl rfl ?_
                      refine wp_load_mid Tryd.thash rfl (cs := hcs (p)) (range_hv ((hk.block _ (lt_of_block H14.out) (by simp; omega)).trans H14.out)) (hcs_length _) ((hS.eval 14 (by decide)).trans rfl) ?_
                      exact ⟨true, b1, b2, b3, b4, b5, b6, b7, rfl, hS.put 93 _ (by simp), fun _ => put_self _ _ _ (by rw [hS.2.1]; exact Nat.le_of_ble_eq_true (by kernel_rfl)), fun h => (put_other _ _ _ _ (by decide)).trans (c1 h), fun h => (put_other _ _ _ _ (by decide)).trans (c2 h), fun h => (put_other _ _ _ _ (by decide)).trans (c3 h), fun h => (put_other _ _ _ _ (by decide)).trans (c4 h), fun h => (put_other _ _ _ _ (by decide)).trans (c5 h), row_8, row_9, hk, q6_1, q7_4⟩
                    · obtain rfl := Option.some.inj ho
                      have hb : b1 = false := by simpa using hbi
                      clear hdep hbi hi ho hlt
                      subst hb
                      have hns : b6 = false := by cases hh : b6 with | false => rfl | true => exact absurd (q6_1 hh) (by simp)
                      subst hns
                      refine wpOp_of rfl rfl ?_
                      refine wp_load_mid Tryd.thash rfl (cs := hcs (f)) (range_hv (by simpa using row_8)) (hcs_length _) ((hS.eval 8 (by decide)).trans rfl) ?_
                      exact ⟨b0, true, b2, b3, b4, b5, false, b7, rfl, hS.put 94 _ (by simp), fun h => (put_other _ _ _ _ (by decide)).trans (c0 h), fun _ => put_self _ _ _ (by rw [hS.2.1]; exact Nat.le_of_ble_eq_true (by kernel_rfl)), fun h => (put_other _ _ _ _ (by decide)).trans (c2 h), fun h => (put_other _ _ _ _ (by decide)).trans (c3 h), fun h => (put_other _ _ _ _ (by decide)).trans (c4 h), fun h => (put_other _ _ _ _ (by decide)).trans (c5 h), row_8, row_9, hk, fun _ => rfl, q7_4⟩
                    · obtain rfl := Option.some.inj ho
                      have hb : b2 = false := by simpa using hbi
                      have e0 : b0 = true := by revert hdep; cases b0 <;> simp [Region.binds]
                      have e1 : b1 = true := by revert hdep; cases b1 <;> simp [Region.binds]
                      clear hdep hbi hi ho hlt
                      subst hb
                      subst e0
                      subst e1
                      refine wpOp_of rfl rfl ?_
                      refine wp_node rfl (x := p) (y := f) (eval_at (c0 rfl)) (eval_at (c1 rfl)) ((HL.out.below K5.out).kept hk (by simp; omega)) (Nat.le_trans (HN2.out) hk.size) ?_
                      intro w2 k2
                      exact ⟨true, true, true, b3, b4, b5, b6, b7, rfl, hS.put 95 _ (by simp), fun h => (put_other _ _ _ _ (by decide)).trans (c0 h), fun h => (put_other _ _ _ _ (by decide)).trans (c1 h), fun _ => put_self _ _ _ (by rw [hS.2.1]; exact Nat.le_of_ble_eq_true (by kernel_rfl)), fun h => (put_other _ _ _ _ (by decide)).trans (c3 h), fun h => (put_other _ _ _ _ (by decide)).trans (c4 h), fun h => (put_other _ _ _ _ (by decide)).trans (c5 h), ((k2.block _ (lt_of_block row_8) (by simp)).trans row_8), ((k2.block _ (lt_of_block row_9) (by simp)).trans row_9), hk.trans k2 (by simp), fun _ => rfl, q7_4⟩
                    · obtain rfl := Option.some.inj ho
                      have hb : b3 = false := by simpa using hbi
                      clear hdep hbi hi ho hlt
                      subst hb
                      refine wpOp_of rfl rfl ?_
                      refine wp_load_mid Tryd.thash rfl (cs := hcs (p)) (range_hv ((hk.block _ (lt_of_block H14.out) (by simp; omega)).trans H14.out)) (hcs_length _) ((hS.eval 14 (by decide)).trans rfl) ?_
                      exact ⟨b0, b1, b2, true, b4, b5, b6, b7, rfl, hS.put 96 _ (by simp), fun h => (put_other _ _ _ _ (by decide)).trans (c0 h), fun h => (put_other _ _ _ _ (by decide)).trans (c1 h), fun h => (put_other _ _ _ _ (by decide)).trans (c2 h), fun _ => put_self _ _ _ (by rw [hS.2.1]; exact Nat.le_of_ble_eq_true (by kernel_rfl)), fun h => (put_other _ _ _ _ (by decide)).trans (c4 h), fun h => (put_other _ _ _ _ (by decide)).trans (c5 h), row_8, row_9, hk, q6_1, q7_4⟩
                    · obtain rfl := Option.some.inj ho
                      have hb : b4 = false := by simpa using hbi
                      clear hdep hbi hi ho hlt
                      subst hb
                      have hns : b7 = false := by cases hh : b7 with | false => rfl | true => exact absurd (q7_4 hh) (by simp)
                      subst hns
                      refine wpOp_of rfl rfl ?_
                      refine wp_load_mid Tryd.thash rfl (cs := hcs (s)) (range_hv (by simpa using row_9)) (hcs_length _) ((hS.eval 9 (by decide)).trans rfl) ?_
                      exact ⟨b0, b1, b2, b3, true, b5, b6, false, rfl, hS.put 97 _ (by simp), fun h => (put_other _ _ _ _ (by decide)).trans (c0 h), fun h => (put_other _ _ _ _ (by decide)).trans (c1 h), fun h => (put_other _ _ _ _ (by decide)).trans (c2 h), fun h => (put_other _ _ _ _ (by decide)).trans (c3 h), fun _ => put_self _ _ _ (by rw [hS.2.1]; exact Nat.le_of_ble_eq_true (by kernel_rfl)), fun h => (put_other _ _ _ _ (by decide)).trans (c5 h), row_8, row_9, hk, q6_1, fun _ => rfl⟩
                    · obtain rfl := Option.some.inj ho
                      have hb : b5 = false := by simpa using hbi
                      have e2 : b2 = true := by revert hdep; cases b2 <;> simp [Region.binds]
                      have e3 : b3 = true := by revert hdep; cases b3 <;> simp [Region.binds]
                      have e4 : b4 = true := by revert hdep; cases b4 <;> simp [Region.binds]
                      clear hdep hbi hi ho hlt
                      subst hb
                      subst e2
                      subst e3
                      subst e4
                      refine wpOp_of rfl rfl ?_
                      refine wp_node rfl (x := p) (y := s) (eval_at (c3 rfl)) (eval_at (c4 rfl)) ((HL.out.below K5.out).kept hk (by simp; omega)) (Nat.le_trans (HN2.out) hk.size) ?_
                      intro w2 k2
                      exact ⟨b0, b1, true, true, true, true, b6, b7, rfl, hS.put 98 _ (by simp), fun h => (put_other _ _ _ _ (by decide)).trans (c0 h), fun h => (put_other _ _ _ _ (by decide)).trans (c1 h), fun h => (put_other _ _ _ _ (by decide)).trans (c2 h), fun h => (put_other _ _ _ _ (by decide)).trans (c3 h), fun h => (put_other _ _ _ _ (by decide)).trans (c4 h), fun _ => put_self _ _ _ (by rw [hS.2.1]; exact Nat.le_of_ble_eq_true (by kernel_rfl)), ((k2.block _ (lt_of_block row_8) (by simp)).trans row_8), ((k2.block _ (lt_of_block row_9) (by simp)).trans row_9), hk.trans k2 (by simp), q6_1, fun _ => rfl⟩
                    · obtain rfl := Option.some.inj ho
                      have hb : b6 = false := by simpa using hbi
                      have e0 : b0 = true := by revert hdep; cases b0 <;> simp [Region.binds]
                      have e1 : b1 = true := by revert hdep; cases b1 <;> simp [Region.binds]
                      have e2 : b2 = true := by revert hdep; cases b2 <;> simp [Region.binds]
                      have e5 : b5 = true := by revert hdep; cases b5 <;> simp [Region.binds]
                      clear hdep hbi hi ho hlt
                      subst hb
                      subst e0
                      subst e1
                      subst e2
                      subst e5
                      refine wpOp_of rfl rfl ?_
                      refine wp_store_hash Tryd.thash rfl row_8 (hvA_size _) (hvA_size (nodeH p f)) (hvA_one _) ((hS.eval 8 (by decide)).trans rfl) (eval_at (c2 rfl)) ?_
                      intro w2 hg2 k2 s2
                      exact ⟨true, true, true, b3, b4, true, true, b7, rfl, hS, c0, c1, c2, c3, c4, c5, (by simpa using hg2), ((k2.block _ (lt_of_block row_9) (by simp)).trans row_9), hk.trans k2 (fun x hx _ => by simp at hx; simp [hx]), fun _ => rfl, q7_4⟩
                    · obtain rfl := Option.some.inj ho
                      have hb : b7 = false := by simpa using hbi
                      have e0 : b0 = true := by revert hdep; cases b0 <;> simp [Region.binds]
                      have e1 : b1 = true := by revert hdep; cases b1 <;> simp [Region.binds]
                      have e2 : b2 = true := by revert hdep; cases b2 <;> simp [Region.binds]
                      have e3 : b3 = true := by revert hdep; cases b3 <;> simp [Region.binds]
                      have e4 : b4 = true := by revert hdep; cases b4 <;> simp [Region.binds]
                      have e5 : b5 = true := by revert hdep; cases b5 <;> simp [Region.binds]
                      have e6 : b6 = true := by revert hdep; cases b6 <;> simp [Region.binds]
                      clear hdep hbi hi ho hlt
                      subst hb
                      subst e0
                      subst e1
                      subst e2
                      subst e3
                      subst e4
                      subst e5
                      subst e6
                      refine wpOp_of rfl rfl ?_
                      refine wp_store_hash Tryd.thash rfl row_9 (hvA_size _) (hvA_size (nodeH p s)) (hvA_one _) ((hS.eval 9 (by decide)).trans rfl) (eval_at (c5 rfl)) ?_
                      intro w2 hg2 k2 s2
                      exact ⟨true, true, true, true, true, true, true, true, rfl, hS, c0, c1, c2, c3, c4, c5, ((k2.block _ (lt_of_block row_8) (by simp)).trans row_8), (by simpa using hg2), hk.trans k2 (fun x hx _ => by simp at hx; simp [hx]), fun _ => rfl, fun _ => rfl⟩
                  · intro l a w hI hr
                    obtain ⟨b0, b1, b2, b3, b4, b5, b6, b7, rfl, hS, c0, c1, c2, c3, c4, c5, row_8, row_9, hk, q6_1, q7_4⟩ := hI
                    have f0 : b0 = true := by
                      cases hh : b0 with
                      | true => rfl
                      | false =>
                        refine absurd ?_ (List.not_mem_nil (a := 0))
                        rw [← hr]
                        exact mem_ready.2 ⟨by simpa using hh, _, rfl, by simp [Region.binds]⟩
                    subst f0
                    have f1 : b1 = true := by
                      cases hh : b1 with
                      | true => rfl
                      | false =>
                        refine absurd ?_ (List.not_mem_nil (a := 1))
                        rw [← hr]
                        exact mem_ready.2 ⟨by simpa using hh, _, rfl, by simp [Region.binds]⟩
                    subst f1
                    have f2 : b2 = true := by
                      cases hh : b2 with
                      | true => rfl
                      | false =>
                        refine absurd ?_ (List.not_mem_nil (a := 2))
                        rw [← hr]
                        exact mem_ready.2 ⟨by simpa using hh, _, rfl, by simp [Region.binds]⟩
                    subst f2
                    have f3 : b3 = true := by
                      cases hh : b3 with
                      | true => rfl
                      | false =>
                        refine absurd ?_ (List.not_mem_nil (a := 3))
                        rw [← hr]
                        exact mem_ready.2 ⟨by simpa using hh, _, rfl, by simp [Region.binds]⟩
                    subst f3
                    have f4 : b4 = true := by
                      cases hh : b4 with
                      | true => rfl
                      | false =>
                        refine absurd ?_ (List.not_mem_nil (a := 4))
                        rw [← hr]
                        exact mem_ready.2 ⟨by simpa using hh, _, rfl, by simp [Region.binds]⟩
                    subst f4
                    have f5 : b5 = true := by
                      cases hh : b5 with
                      | true => rfl
                      | false =>
                        refine absurd ?_ (List.not_mem_nil (a := 5))
                        rw [← hr]
                        exact mem_ready.2 ⟨by simpa using hh, _, rfl, by simp [Region.binds]⟩
                    subst f5
                    have f6 : b6 = true := by
                      cases hh : b6 with
                      | true => rfl
                      | false =>
                        refine absurd ?_ (List.not_mem_nil (a := 6))
                        rw [← hr]
                        exact mem_ready.2 ⟨by simpa using hh, _, rfl, by simp [Region.binds]⟩
                    subst f6
                    have f7 : b7 = true := by
                      cases hh : b7 with
                      | true => rfl
                      | false =>
                        refine absurd ?_ (List.not_mem_nil (a := 7))
                        rw [← hr]
                        exact mem_ready.2 ⟨by simpa using hh, _, rfl, by simp [Region.binds]⟩
                    subst f7
                    obtain rfl := Same.eq ((((((hS.take (c0 rfl)).take (c1 rfl)).take (c2 rfl)).take (c3 rfl)).take (c4 rfl)).take (c5 rfl))
                    simp only [if_true] at row_8
                    simp only [if_true] at row_9
                    try simp only [Act.put, List.setIfInBounds_toArray, List.set_cons_zero, List.set_cons_succ]
                    have K7 := Lib.hid (K5.out.trans hk (fun x hx hlt => by simp at hx; rw [← HN0.out] at hlt; omega))
                    have H8 := Lib.hid row_8
                    have H9 := Lib.hid row_9
                    clear hr hk row_8 row_9 c0 c1 c2 c3 c4 c5 q6_1 q7_4 hS
                    go_wp2_with fail
                    refine (HC.out _).mono ?_
                    rintro e w8 ⟨rfl, rfl⟩
                    go_wp2
                    go_roundw
                    case rel =>
                      refine ⟨k + 1, od / 2, od / 2, nodeH p f, nodeH p s, by omega, by go_num, by go_num, by omega, by omega, by go_num, ?_, H8.out, H9.out, K7.out⟩
                      rw [← HLD.out, HDR.out, bothF, if_neg HY0.out, if_neg HX.out, if_pos rfl, ← HO.out]
                    case measure => simp [intOf]; omega
                · have hx1 : ((x : Int) % 2 == 1) = false := by rw [beq_eq_false_iff_ne]; omega
                  have hl1 : ((x : Int) == (y : Int)) = false := by rw [beq_eq_false_iff_ne]; omega
                  have HLN := Lib.hid hl
                  clear hx hl
                  go_wp2_with (first | (refine wpList_get_mid Tryd.thash rfl rfl HRA.out (hcs_length _) rfl ?_) | (refine wpList_set Tryd.thash rfl rfl (heap_alloc_new wr _) (hvA_size zeroH) (hvA_size p) (hvA_one _) rfl rfl ?_; intro w5 h5 k5 s5; have K15 := Lib.hid (((Kp.refl [] wr).alloc (.cells (hvA zeroH) 33)).trans k5 (fun x hx hlt => by simp at hx; omega)); have K5 := Lib.hid (HKP.out.trans K15.out (by simp)); have ROW_8 := Lib.hid ((K15.out.block _ (lt_of_block G8.out) (by simp)).trans G8.out); have ROW_9 := Lib.hid ((K15.out.block _ (lt_of_block G9.out) (by simp)).trans G9.out); have H14 := Lib.hid h5; have HN2 := Lib.hid (Nat.le_trans h2 K5.out.size); clear h5 k5 s5) | (refine wpList_get Tryd.thash rfl rfl H14.out (hvA_size _) rfl ?_) | (refine wpList_get Tryd.thash rfl rfl ROW_9.out (hvA_size _) rfl ?_))
                  refine (node_any s p _ (HL.out.below K5.out) HN2.out).mono ?_
                  rintro e w6 ⟨rfl, k6⟩
                  have K6 := Lib.hid (K5.out.trans k6 (by simp))
                  have G96 := Lib.hid ((k6.block _ (lt_of_block ROW_9.out) (by simp)).trans ROW_9.out)
                  have G86 := Lib.hid ((k6.block _ (lt_of_block ROW_8.out) (by simp)).trans ROW_8.out)
                  clear k6
                  go_wp2_with (refine wpList_set Tryd.thash rfl rfl G96.out (hvA_size _) (hvA_size _) (hvA_one (nodeH s p)) rfl rfl ?_; intro w7 h7 k7 s7; have H7 := Lib.hid h7; have K7 := Lib.hid (K6.out.trans k7 (fun x hx hlt => by simp at hx; rw [← HN0.out] at hlt; omega)); have G87 := Lib.hid ((k7.block _ (lt_of_block G86.out) (by simp)).trans G86.out); clear h7 k7 s7)
                  go_roundw
                  case rel =>
                    refine ⟨k + 1, x / 2, y / 2, f, nodeH s p, by omega, by go_num, by go_num, by omega, by omega, by go_num, ?_, G87.out, H7.out, K7.out⟩
                    rw [← HLD.out, HDR.out, bothF, if_neg HY0.out, if_neg HX.out, if_neg HLN.out]
                  case measure => simp [intOf]; omega
          · obtain rfl : k = ps.length := by omega
            have HSZ := Lib.hid hkp.size
            clear hkp
            rw [List.drop_length] at HLD
            by_cases hy0 : y = 0
            · subst hy0
              have hty : Tryd.prog.underlying 33 = some (.array 32 5) := Tryd.underlying33
              have hsF : (Tryd.prog.info? 33).map (·.size) = some (hcs f).length := by rw [hcs_length]; exact Tryd.thash.s
              have hsS : (Tryd.prog.info? 33).map (·.size) = some (hcs s).length := by rw [hcs_length]; exact Tryd.thash.s
              go_wp2_with fail
              refine wp_region_held_drew (S := fun W => W.heap[n0 + 1]? = some (.cells (hvA f) 33 (0, 0)) ∧ W.heap[n0 + 1 + 1]? = some (.cells (hvA s) 33 (0, 0))) (by kernel_rfl) ⟨G8.out.drewB, G9.out.drewB⟩ (fun hHeld => ?_)
              refine takeD (i := 0) (dst := (some 117)) (v := _) rfl rfl (by kernel_rfl) (by kernel_rfl) (by kernel_rfl) (fun _ _ _ h => h) (yieldsIf_load_mid (by rfl) _ _ rfl _ _ rfl _ _ (fun _ h => range_hv h.1) hty rfl hsF) (by assumption) ?_
              try simp only [Act.put, List.setIfInBounds_toArray, List.set_cons_zero, List.set_cons_succ]
              refine takeD (i := 1) (dst := (some 118)) (v := _) rfl rfl (by kernel_rfl) (by kernel_rfl) (by kernel_rfl) (fun _ _ _ h => h) (yieldsIf_load_mid (by rfl) _ _ rfl _ _ rfl _ _ (fun _ h => range_hv h.2) hty rfl hsS) (by assumption) ?_
              try simp only [Act.put, List.setIfInBounds_toArray, List.set_cons_zero, List.set_cons_succ]
              refine wpAnyH_ready (rs := [2]) (by kernel_rfl) (by simp) ?_
              refine AllReadyH.cons rfl (fun K hK => ?_) AllReadyH.nil
              rw [if_pos (by rfl)]
              refine wp_store_hash Tryd.thash rfl hHeld.1 (hvA_size _) (hvA_size f) (hvA_one _) rfl rfl ?_
              intro w8 h8 k8 s8
              refine hK.out _ _ ⟨h8, (k8.block _ (lt_of_block hHeld.2) (by simp)).trans hHeld.2⟩ (fun hHeld2 => ?_)
              clear hK K
              try simp only [Act.put, List.setIfInBounds_toArray]
              refine wpAnyH_ready (rs := [3]) (by kernel_rfl) (by simp) ?_
              refine AllReadyH.cons rfl (fun K hK => ?_) AllReadyH.nil
              rw [if_pos (by rfl)]
              refine wp_store_hash Tryd.thash rfl hHeld2.2 (hvA_size _) (hvA_size s) (hvA_one _) rfl rfl ?_
              intro w9 h9 k9 s9
              refine hK.out _ _ ⟨(k9.block _ (lt_of_block h8) (by simp)).trans h8, h9⟩ (fun hHeld3 => ?_)
              clear hK K
              try simp only [Act.put]
              refine takeD (i := 4) (dst := (some 10)) (v := ?_) rfl rfl (by kernel_rfl) (by kernel_rfl) (by kernel_rfl) (fun _ _ _ h => h) (Or.inl ⟨by rfl, ?_⟩) (by assumption) ?_
              rotate_left
              · intro w' hSw
                go_simp
                all_goals (with_reducible rfl)
              try simp only [Act.put]
              refine wpAnyH_done (by kernel_rfl) ?_ _
              have H8 := Lib.hid hHeld3.1
              have H9 := Lib.hid hHeld3.2
              have KK := Lib.hid ((HKP.out.drew.trans k8 (fun x hx hlt => by simp at hx; rw [← HN0.out] at hlt; omega)).trans k9 (fun x hx hlt => by simp at hx; rw [← HN0.out] at hlt; omega))
              have HO2 := Lib.hid (show o = some (f, s) by rw [← HLD.out, bothF, if_pos rfl])
              clear h8 h9 k8 k9 s8 s9 hHeld hHeld2 hHeld3 hty hsF hsS
              go_wp2
              refine ret_block2_tmp Tryd.thash rfl H8.out (hvA_size _) rfl H9.out (hvA_size _) rfl rfl rfl ⟨?_, KK.out⟩
              rw [HO2.out]; rfl
            · have hy1 : ((y : Int) == 0) = false := by rw [beq_eq_false_iff_ne]; omega
              have HO2 := Lib.hid (show o = none by rw [← HLD.out, bothF, if_neg hy0])
              have tokA : True := trivial
              go_wp2_with (first | (have _t := tokA; refine wpList_set Tryd.thash rfl rfl G8.out (hvA_size _) (hvA_size zeroH) (hvA_one _) rfl rfl ?_; clear tokA; intro w7 h7 k7 s7; have H7 := Lib.hid h7; have K7 := Lib.hid (HKP.out.trans k7 (fun x hx hlt => by simp at hx; rw [← HN0.out] at hlt; omega)); have G97 := Lib.hid ((k7.block _ (lt_of_block G9.out) (by simp)).trans G9.out); clear h7 k7 s7) | (refine wpList_set Tryd.thash rfl rfl G97.out (hvA_size _) (hvA_size zeroH) (hvA_one _) rfl rfl ?_; intro w9 h9 k9 s9))
              refine ret_block2_tmp Tryd.thash rfl ((k9.block _ (lt_of_block H7.out) (by simp)).trans H7.out) (hvA_size _) rfl h9 (hvA_size _) rfl rfl rfl ⟨?_, ?_⟩
              · rw [HO2.out]; rfl
              · exact K7.out.trans k9 (fun x hx hlt => by simp at hx; rw [← HN0.out] at hlt; omega)
      · have hxp0 : 0 < x := by omega
        have hx2 : (x : Int) > 0 := by omega
        cases ps with
        | nil =>
          have HO2 := Lib.hid (show o = none from hbr.trans (bothX_nil x y old hxp0))
          clear hbr
          have tokA : True := trivial
          have tokB : True := trivial
          go_wp2_with (first
            | (have _t := tokA; refine wpList_get Tryd.thash rfl rfl HG6.out (hvA_size _) rfl ?_)
            | (have _t := tokA; refine wpList_set Tryd.thash rfl rfl HG8.out (hvA_size _) (hvA_size old) (hvA_one _) rfl rfl ?_; clear tokA; intro w8 h8 k8 s8; have H8 := Lib.hid h8; have K8 := Lib.hid (K0.out.trans k8 (fun x hx hlt => by simp at hx; rw [← HN0.out] at hlt; omega)); have HG98 := Lib.hid ((k8.block _ (lt_of_block HG9.out) (by simp)).trans HG9.out); clear h8 k8 s8)
            | (have _t := tokB; refine wpList_set Tryd.thash rfl rfl H8.out (hvA_size _) (hvA_size zeroH) (hvA_one _) rfl rfl ?_; clear tokB; intro w7 h7 k7 s7; have H7 := Lib.hid h7; have K7 := Lib.hid (K8.out.trans k7 (fun x hx hlt => by simp at hx; rw [← HN0.out] at hlt; omega)); have G97 := Lib.hid ((k7.block _ (lt_of_block HG98.out) (by simp)).trans HG98.out); clear h7 k7 s7)
            | (refine wpList_set Tryd.thash rfl rfl G97.out (hvA_size _) (hvA_size zeroH) (hvA_one _) rfl rfl ?_; intro w9 h9 k9 s9))
          refine ret_block2_tmp Tryd.thash rfl ((k9.block _ (lt_of_block H7.out) (by simp)).trans H7.out) (hvA_size _) rfl h9 (hvA_size _) rfl rfl rfl ⟨?_, ?_⟩
          · rw [HO2.out]; rfl
          · exact K7.out.trans k9 (fun x hx hlt => by simp at hx; rw [← HN0.out] at hlt; omega)
        | cons q qs =>
          have HOO := Lib.hid (show bothF x y q q qs = o from (hbr.trans (bothX_cons x y old q qs hxp0)).symm)
          obtain ⟨b0, off0, hsl, hb0, hc0⟩ := HR.out.spot (by rw [hsc_length]; simp)
          subst hsl
          have hq0 := rd_hash hc0 0 (by simp)
          have hdr0 := HR.out.drop 1 (by simp)
          rw [hsc_drop _ 1 (by simp), Option.map_some, Addr.add_mid] at hdr0
          simp only [List.drop_succ_cons, List.drop_zero, List.length_cons, Nat.add_sub_cancel, Nat.one_mul] at hdr0
          have hqv : w.rangeAt b0 off0 (hcs q) := by simpa using hq0
          have hcl := HR.out.le
          rw [List.length_cons] at hcl hmax
          have HQV := Lib.hid hqv
          have HRL := Lib.hid hdr0
          clear hbr hc0 hq0 hqv hdr0
          have hty : Tryd.prog.underlying 33 = some (.array 32 5) := Tryd.underlying33
          have hsQ : (Tryd.prog.info? 33).map (·.size) = some (hcs q).length := by rw [hcs_length]; exact Tryd.thash.s
          have hcc : c = 1 ∨ ¬ c = 1 := by omega
          have hbn : b0 < n0 := by rw [HN0.out]; exact hb0
          have hq1 : (1 : Int) ≤ (qs.length : Int) + 1 := by omega
          rw [List.length_cons]
          rcases hcc with rfl | hc1
          · rw [if_pos rfl] at HRL
            have tokA : True := trivial
            have tokB : True := trivial
            go_wp2_with (first
              | (have _t := tokA; refine wpList_get Tryd.thash rfl rfl HG6.out (hvA_size _) rfl ?_)
              | (have _t := tokA; refine wpList_set Tryd.thash rfl rfl HG8.out (hvA_size _) (hvA_size old) (hvA_one _) rfl rfl ?_; clear tokA; intro w8 h8 k8 s8; have H8 := Lib.hid h8; have K8 := Lib.hid (K0.out.trans k8 (fun x hx hlt => by simp at hx; rw [← HN0.out] at hlt; omega)); have HG98 := Lib.hid ((k8.block _ (lt_of_block HG9.out) (by simp)).trans HG9.out); clear h8 k8 s8))
            have HQ8 := Lib.hid (HQV.out.keptK K8.out (by simp))
            refine wp_region_held_drew (S := fun W => W.rangeAt b0 off0 (hcs q)) (by kernel_rfl) (fun j v hj => HQ8.out j v hj) (fun hHeld => ?_)
            refine takeD (i := 0) (dst := (some 69)) (v := ?_) rfl rfl (by kernel_rfl) (by kernel_rfl) (by kernel_rfl) (fun _ _ _ h => h) (Or.inl ⟨by rfl, ?_⟩) (by assumption) ?_
            rotate_left
            · intro w' hSw
              go_simp
              all_goals (with_reducible rfl)
            try simp only [Act.put, List.setIfInBounds_toArray, List.set_cons_zero, List.set_cons_succ]
            refine takeD (i := 1) (dst := (some 70)) (v := ?_) rfl rfl (by kernel_rfl) (by kernel_rfl) (by kernel_rfl) (fun _ _ _ h => h) (Or.inl ⟨by rfl, ?_⟩) (by assumption) ?_
            rotate_left
            · intro w' hSw
              go_simp
              all_goals (with_reducible rfl)
            try simp only [Act.put, List.setIfInBounds_toArray, List.set_cons_zero, List.set_cons_succ]
            refine takeD (i := 2) (dst := (some 71)) (v := _) rfl rfl (by kernel_rfl) (by kernel_rfl) (by kernel_rfl) (fun _ _ _ h => h) (yieldsIf_load_mid (by rfl) _ _ rfl _ _ rfl _ _ (fun _ h => h) hty rfl hsQ) (by assumption) ?_
            try simp only [Act.put, List.setIfInBounds_toArray, List.set_cons_zero, List.set_cons_succ]
            refine takeD (i := 3) (dst := (some 72)) (v := ?_) rfl rfl (by kernel_rfl) (by kernel_rfl) (by kernel_rfl) (fun _ _ _ h => h) (Or.inl ⟨by rfl, ?_⟩) (by assumption) ?_
            rotate_left
            · intro w' hSw
              go_simp
              all_goals (with_reducible rfl)
            try simp only [Act.put, List.setIfInBounds_toArray, List.set_cons_zero, List.set_cons_succ]
            refine takeD (i := 4) (dst := (some 73)) (v := ?_) rfl rfl (by kernel_rfl) (by kernel_rfl) (by kernel_rfl) (fun _ _ _ h => h) (Or.inl ⟨by rfl, ?_⟩) (by assumption) ?_
            rotate_left
            · intro w' hSw
              go_simp
              all_goals (with_reducible rfl)
            try simp only [Act.put, List.setIfInBounds_toArray, List.set_cons_zero, List.set_cons_succ]
            refine wpAnyH_ready (rs := [5]) (by kernel_rfl) (by simp) ?_
            refine AllReadyH.cons rfl (fun K hK => ?_) AllReadyH.nil
            rw [if_pos (by rfl)]
            refine wp_store_hash Tryd.thash rfl H8.out.drewB (hvA_size _) (hvA_size q) (hvA_one _) rfl rfl ?_
            intro w7 h7 k7 s7
            refine hK.out _ _ (hHeld.keptK k7 (by simp; omega)) (fun hHeld2 => ?_)
            clear hK K
            try simp only [Act.put, List.setIfInBounds_toArray]
            refine takeD (i := 6) (dst := (some 3)) (v := ?_) rfl rfl (by kernel_rfl) (by kernel_rfl) (by kernel_rfl) (fun _ _ _ h => h) (Or.inl ⟨by rfl, ?_⟩) (by assumption) ?_
            rotate_left
            · intro w' hSw
              go_simp
              all_goals (with_reducible rfl)
            try simp only [Act.put]
            refine wpAnyH_done (by kernel_rfl) ?_ _
            have H7 := Lib.hid h7
            have K7 := Lib.hid (K8.out.drew.trans k7 (fun x hx hlt => by simp at hx; rw [← HN0.out] at hlt; omega))
            have HG97 := Lib.hid ((k7.block _ (lt_of_block HG98.out) (by simp)).trans HG98.out)
            clear h7 k7 s7 hHeld hHeld2 hty hsQ
            go_wp2_with (first
              | (refine wpList_get Tryd.thash rfl rfl H7.out (hvA_size _) rfl ?_)
              | (have _t := tokB; refine wpList_set Tryd.thash rfl rfl HG97.out (hvA_size _) (hvA_size q) (hvA_one _) rfl rfl ?_; clear tokB; intro w9 h9 k9 s9; have H9L := Lib.hid h9; have KL := Lib.hid (K7.out.trans k9 (fun x hx hlt => by simp at hx; rw [← HN0.out] at hlt; omega)); have H8L := Lib.hid ((k9.block _ (lt_of_block H7.out) (by simp)).trans H7.out); clear h9 k9 s9))
            go_loopw [11, 12, 77] (fun v11 v12 v77 wr => ∃ (k x y : Nat) (f s : Hsh), k ≤ qs.length ∧ v11 = .int .i64 x ∧ v12 = .int .i64 y ∧ x ≤ y ∧ y ≤ n ∧ v77 = .int .i64 k ∧ bothF x y f s (qs.drop k) = o ∧ wr.heap[n0 + 1]? = some (.cells (hvA f) 33 (0, 0)) ∧ wr.heap[n0 + 1 + 1]? = some (.cells (hvA s) 33 (0, 0)) ∧ Kp [] w wr) (fun _ _ v77 _ => qs.length - (intOf v77).toNat)
            case atStart => exact ⟨0, x, y, q, q, by omega, rfl, rfl, hxy, hyn, rfl, by rw [List.drop_zero]; exact HOO.out, H8L.out, H9L.out, KL.out⟩
            case round =>
              obtain ⟨k, x, y, f, s, hk, rfl, rfl, hxy, hyz, rfl, hld, g8, g9, hkp⟩ := hrel
              have HLD := Lib.hid hld
              have G8 := Lib.hid g8
              have G9 := Lib.hid g9
              have HKP := Lib.hid hkp
              clear hld g8 g9
              by_cases hlt : k < qs.length
              · exfalso; omega
              · obtain rfl : k = qs.length := by omega
                have HSZ := Lib.hid hkp.size
                clear hkp
                rw [List.drop_length] at HLD
                by_cases hy0 : y = 0
                · subst hy0
                  have hty : Tryd.prog.underlying 33 = some (.array 32 5) := Tryd.underlying33
                  have hsF : (Tryd.prog.info? 33).map (·.size) = some (hcs f).length := by rw [hcs_length]; exact Tryd.thash.s
                  have hsS : (Tryd.prog.info? 33).map (·.size) = some (hcs s).length := by rw [hcs_length]; exact Tryd.thash.s
                  go_wp2_with fail
                  refine wp_region_held_drew (S := fun W => W.heap[n0 + 1]? = some (.cells (hvA f) 33 (0, 0)) ∧ W.heap[n0 + 1 + 1]? = some (.cells (hvA s) 33 (0, 0))) (by kernel_rfl) ⟨G8.out.drewB, G9.out.drewB⟩ (fun hHeld => ?_)
                  refine takeD (i := 0) (dst := (some 117)) (v := _) rfl rfl (by kernel_rfl) (by kernel_rfl) (by kernel_rfl) (fun _ _ _ h => h) (yieldsIf_load_mid (by rfl) _ _ rfl _ _ rfl _ _ (fun _ h => range_hv h.1) hty rfl hsF) (by assumption) ?_
                  try simp only [Act.put, List.setIfInBounds_toArray, List.set_cons_zero, List.set_cons_succ]
                  refine takeD (i := 1) (dst := (some 118)) (v := _) rfl rfl (by kernel_rfl) (by kernel_rfl) (by kernel_rfl) (fun _ _ _ h => h) (yieldsIf_load_mid (by rfl) _ _ rfl _ _ rfl _ _ (fun _ h => range_hv h.2) hty rfl hsS) (by assumption) ?_
                  try simp only [Act.put, List.setIfInBounds_toArray, List.set_cons_zero, List.set_cons_succ]
                  refine wpAnyH_ready (rs := [2]) (by kernel_rfl) (by simp) ?_
                  refine AllReadyH.cons rfl (fun K hK => ?_) AllReadyH.nil
                  rw [if_pos (by rfl)]
                  refine wp_store_hash Tryd.thash rfl hHeld.1 (hvA_size _) (hvA_size f) (hvA_one _) rfl rfl ?_
                  intro w8 h8 k8 s8
                  refine hK.out _ _ ⟨h8, (k8.block _ (lt_of_block hHeld.2) (by simp)).trans hHeld.2⟩ (fun hHeld2 => ?_)
                  clear hK K
                  try simp only [Act.put, List.setIfInBounds_toArray]
                  refine wpAnyH_ready (rs := [3]) (by kernel_rfl) (by simp) ?_
                  refine AllReadyH.cons rfl (fun K hK => ?_) AllReadyH.nil
                  rw [if_pos (by rfl)]
                  refine wp_store_hash Tryd.thash rfl hHeld2.2 (hvA_size _) (hvA_size s) (hvA_one _) rfl rfl ?_
                  intro w9 h9 k9 s9
                  refine hK.out _ _ ⟨(k9.block _ (lt_of_block h8) (by simp)).trans h8, h9⟩ (fun hHeld3 => ?_)
                  clear hK K
                  try simp only [Act.put]
                  refine takeD (i := 4) (dst := (some 10)) (v := ?_) rfl rfl (by kernel_rfl) (by kernel_rfl) (by kernel_rfl) (fun _ _ _ h => h) (Or.inl ⟨by rfl, ?_⟩) (by assumption) ?_
                  rotate_left
                  · intro w' hSw
                    go_simp
                    all_goals (with_reducible rfl)
                  try simp only [Act.put]
                  refine wpAnyH_done (by kernel_rfl) ?_ _
                  have H8 := Lib.hid hHeld3.1
                  have H9 := Lib.hid hHeld3.2
                  have KK := Lib.hid ((HKP.out.drew.trans k8 (fun x hx hlt => by simp at hx; rw [← HN0.out] at hlt; omega)).trans k9 (fun x hx hlt => by simp at hx; rw [← HN0.out] at hlt; omega))
                  have HO2 := Lib.hid (show o = some (f, s) by rw [← HLD.out, bothF, if_pos rfl])
                  clear h8 h9 k8 k9 s8 s9 hHeld hHeld2 hHeld3 hty hsF hsS
                  go_wp2
                  refine ret_block2_tmp Tryd.thash rfl H8.out (hvA_size _) rfl H9.out (hvA_size _) rfl rfl rfl ⟨?_, KK.out⟩
                  rw [HO2.out]; rfl
                · have hy1 : ((y : Int) == 0) = false := by rw [beq_eq_false_iff_ne]; omega
                  have HO2 := Lib.hid (show o = none by rw [← HLD.out, bothF, if_neg hy0])
                  have tokA : True := trivial
                  go_wp2_with (first | (have _t := tokA; refine wpList_set Tryd.thash rfl rfl G8.out (hvA_size _) (hvA_size zeroH) (hvA_one _) rfl rfl ?_; clear tokA; intro w7 h7 k7 s7; have H7 := Lib.hid h7; have K7 := Lib.hid (HKP.out.trans k7 (fun x hx hlt => by simp at hx; rw [← HN0.out] at hlt; omega)); have G97 := Lib.hid ((k7.block _ (lt_of_block G9.out) (by simp)).trans G9.out); clear h7 k7 s7) | (refine wpList_set Tryd.thash rfl rfl G97.out (hvA_size _) (hvA_size zeroH) (hvA_one _) rfl rfl ?_; intro w9 h9 k9 s9))
                  refine ret_block2_tmp Tryd.thash rfl ((k9.block _ (lt_of_block H7.out) (by simp)).trans H7.out) (hvA_size _) rfl h9 (hvA_size _) rfl rfl rfl ⟨?_, ?_⟩
                  · rw [HO2.out]; rfl
                  · exact K7.out.trans k9 (fun x hx hlt => by simp at hx; rw [← HN0.out] at hlt; omega)
          · rw [if_neg hc1] at HRL
            have tokA : True := trivial
            have tokB : True := trivial
            go_wp2_with (first
              | (have _t := tokA; refine wpList_get Tryd.thash rfl rfl HG6.out (hvA_size _) rfl ?_)
              | (have _t := tokA; refine wpList_set Tryd.thash rfl rfl HG8.out (hvA_size _) (hvA_size old) (hvA_one _) rfl rfl ?_; clear tokA; intro w8 h8 k8 s8; have H8 := Lib.hid h8; have K8 := Lib.hid (K0.out.trans k8 (fun x hx hlt => by simp at hx; rw [← HN0.out] at hlt; omega)); have HG98 := Lib.hid ((k8.block _ (lt_of_block HG9.out) (by simp)).trans HG9.out); clear h8 k8 s8))
            have HQ8 := Lib.hid (HQV.out.keptK K8.out (by simp))
            refine wp_region_held_drew (S := fun W => W.rangeAt b0 off0 (hcs q)) (by kernel_rfl) (fun j v hj => HQ8.out j v hj) (fun hHeld => ?_)
            refine takeD (i := 0) (dst := (some 69)) (v := ?_) rfl rfl (by kernel_rfl) (by kernel_rfl) (by kernel_rfl) (fun _ _ _ h => h) (Or.inl ⟨by rfl, ?_⟩) (by assumption) ?_
            rotate_left
            · intro w' hSw
              go_simp
              all_goals (with_reducible rfl)
            try simp only [Act.put, List.setIfInBounds_toArray, List.set_cons_zero, List.set_cons_succ]
            refine takeD (i := 1) (dst := (some 70)) (v := ?_) rfl rfl (by kernel_rfl) (by kernel_rfl) (by kernel_rfl) (fun _ _ _ h => h) (Or.inl ⟨by rfl, ?_⟩) (by assumption) ?_
            rotate_left
            · intro w' hSw
              go_simp
              all_goals (with_reducible rfl)
            try simp only [Act.put, List.setIfInBounds_toArray, List.set_cons_zero, List.set_cons_succ]
            refine takeD (i := 2) (dst := (some 71)) (v := _) rfl rfl (by kernel_rfl) (by kernel_rfl) (by kernel_rfl) (fun _ _ _ h => h) (yieldsIf_load_mid (by rfl) _ _ rfl _ _ rfl _ _ (fun _ h => h) hty rfl hsQ) (by assumption) ?_
            try simp only [Act.put, List.setIfInBounds_toArray, List.set_cons_zero, List.set_cons_succ]
            refine takeD (i := 3) (dst := (some 72)) (v := ?_) rfl rfl (by kernel_rfl) (by kernel_rfl) (by kernel_rfl) (fun _ _ _ h => h) (Or.inl ⟨by rfl, ?_⟩) (by assumption) ?_
            rotate_left
            · intro w' hSw
              go_simp
              all_goals (with_reducible rfl)
            try simp only [Act.put, List.setIfInBounds_toArray, List.set_cons_zero, List.set_cons_succ]
            refine takeD (i := 4) (dst := (some 73)) (v := ?_) rfl rfl (by kernel_rfl) (by kernel_rfl) (by kernel_rfl) (fun _ _ _ h => h) (Or.inl ⟨by rfl, ?_⟩) (by assumption) ?_
            rotate_left
            · intro w' hSw
              go_simp
              all_goals (with_reducible rfl)
            try simp only [Act.put, List.setIfInBounds_toArray, List.set_cons_zero, List.set_cons_succ]
            refine wpAnyH_ready (rs := [5]) (by kernel_rfl) (by simp) ?_
            refine AllReadyH.cons rfl (fun K hK => ?_) AllReadyH.nil
            rw [if_pos (by rfl)]
            refine wp_store_hash Tryd.thash rfl H8.out.drewB (hvA_size _) (hvA_size q) (hvA_one _) rfl rfl ?_
            intro w7 h7 k7 s7
            refine hK.out _ _ (hHeld.keptK k7 (by simp; omega)) (fun hHeld2 => ?_)
            clear hK K
            try simp only [Act.put, List.setIfInBounds_toArray]
            refine takeD (i := 6) (dst := (some 3)) (v := ?_) rfl rfl (by kernel_rfl) (by kernel_rfl) (by kernel_rfl) (fun _ _ _ h => h) (Or.inl ⟨by rfl, ?_⟩) (by assumption) ?_
            rotate_left
            · intro w' hSw
              go_simp
              all_goals (with_reducible rfl)
            try simp only [Act.put]
            refine wpAnyH_done (by kernel_rfl) ?_ _
            have H7 := Lib.hid h7
            have K7 := Lib.hid (K8.out.drew.trans k7 (fun x hx hlt => by simp at hx; rw [← HN0.out] at hlt; omega))
            have HG97 := Lib.hid ((k7.block _ (lt_of_block HG98.out) (by simp)).trans HG98.out)
            clear h7 k7 s7 hHeld hHeld2 hty hsQ
            go_wp2_with (first
              | (refine wpList_get Tryd.thash rfl rfl H7.out (hvA_size _) rfl ?_)
              | (have _t := tokB; refine wpList_set Tryd.thash rfl rfl HG97.out (hvA_size _) (hvA_size q) (hvA_one _) rfl rfl ?_; clear tokB; intro w9 h9 k9 s9; have H9L := Lib.hid h9; have KL := Lib.hid (K7.out.trans k9 (fun x hx hlt => by simp at hx; rw [← HN0.out] at hlt; omega)); have H8L := Lib.hid ((k9.block _ (lt_of_block H7.out) (by simp)).trans H7.out); clear h9 k9 s9))
            go_loopw [11, 12, 77] (fun v11 v12 v77 wr => ∃ (k x y : Nat) (f s : Hsh), k ≤ qs.length ∧ v11 = .int .i64 x ∧ v12 = .int .i64 y ∧ x ≤ y ∧ y ≤ n ∧ v77 = .int .i64 k ∧ bothF x y f s (qs.drop k) = o ∧ wr.heap[n0 + 1]? = some (.cells (hvA f) 33 (0, 0)) ∧ wr.heap[n0 + 1 + 1]? = some (.cells (hvA s) 33 (0, 0)) ∧ Kp [] w wr) (fun _ _ v77 _ => qs.length - (intOf v77).toNat)
            case atStart => exact ⟨0, x, y, q, q, by omega, rfl, rfl, hxy, hyn, rfl, by rw [List.drop_zero]; exact HOO.out, H8L.out, H9L.out, KL.out⟩
            case round =>
              obtain ⟨k, x, y, f, s, hk, rfl, rfl, hxy, hyz, rfl, hld, g8, g9, hkp⟩ := hrel
              have HLD := Lib.hid hld
              have G8 := Lib.hid g8
              have G9 := Lib.hid g9
              have HKP := Lib.hid hkp
              clear hld g8 g9
              by_cases hlt : k < qs.length
              · obtain ⟨b, off, hsla, _, hcs⟩ := (HRL.out.below hkp).spot (by rw [hsc_length]; omega)
                simp only [Option.some.injEq, Addr.mk.injEq, and_true] at hsla
                obtain ⟨rfl, rfl⟩ := hsla
                have hra := rd_hash hcs k hlt
                have hdr : qs.drop k = qs[k] :: qs.drop (k + 1) := List.drop_eq_getElem_cons hlt
                obtain ⟨p, hp⟩ : ∃ p, p = qs[k] := ⟨_, rfl⟩
                rw [← hp] at hra hdr
                have HRA := Lib.hid hra
                have HDR := Lib.hid hdr
                have HSZ := Lib.hid hkp.size
                have hlt12 : n0 + 1 + 1 < wr.heap.size := lt_of_block G9.out
                clear hkp hcs hra hdr hp
                by_cases hy0 : y = 0
                · subst hy0
                  have tokA : True := trivial
                  go_wp2_with (first | (refine wpList_get_mid Tryd.thash rfl rfl HRA.out (hcs_length _) rfl ?_) | (refine wpList_set Tryd.thash rfl rfl (heap_alloc_new wr _) (hvA_size zeroH) (hvA_size p) (hvA_one _) rfl rfl ?_; intro w5 h5 k5 s5; have K5 := Lib.hid (((Kp.refl [] wr).alloc (.cells (hvA zeroH) 33)).trans k5 (fun x hx hlt => by simp at hx; omega)); have G85 := Lib.hid ((K5.out.block _ (lt_of_block G8.out) (by simp)).trans G8.out); have G95 := Lib.hid ((K5.out.block _ (lt_of_block G9.out) (by simp)).trans G9.out); clear h5 k5 s5) | (have _t := tokA; refine wpList_set Tryd.thash rfl rfl G85.out (hvA_size _) (hvA_size zeroH) (hvA_one _) rfl rfl ?_; clear tokA; intro w7 h7 k7 s7; have H7 := Lib.hid h7; have K7 := Lib.hid ((HKP.out.trans K5.out (by simp)).trans k7 (fun x hx hlt => by simp at hx; rw [← HN0.out] at hlt; omega)); have G97 := Lib.hid ((k7.block _ (lt_of_block G95.out) (by simp)).trans G95.out); clear h7 k7 s7) | (refine wpList_set Tryd.thash rfl rfl G97.out (hvA_size _) (hvA_size zeroH) (hvA_one _) rfl rfl ?_; intro w9 h9 k9 s9))
                  refine ret_block2_tmp Tryd.thash rfl ((k9.block _ (lt_of_block H7.out) (by simp)).trans H7.out) (hvA_size _) rfl h9 (hvA_size _) rfl rfl rfl ⟨?_, ?_⟩
                  · rw [← HLD.out, HDR.out, bothF, if_pos rfl]; rfl
                  · exact K7.out.trans k9 (fun x hx hlt => by simp at hx; rw [← HN0.out] at hlt; omega)
                · have hy1 : ((y : Int) == 0) = false := by rw [beq_eq_false_iff_ne]; omega
                  have HY0 := Lib.hid hy0
                  clear hy0
                  by_cases hx : x % 2 = 1
                  · have hx1 : ((x : Int) % 2 == 1) = true := by rw [beq_iff_eq]; omega
                    have HX := Lib.hid hx
                    go_wp2_with (first | (refine wpList_get_mid Tryd.thash rfl rfl HRA.out (hcs_length _) rfl ?_) | (refine wpList_set Tryd.thash rfl rfl (heap_alloc_new wr _) (hvA_size zeroH) (hvA_size p) (hvA_one _) rfl rfl ?_; intro w5 h5 k5 s5; have K15 := Lib.hid (((Kp.refl [] wr).alloc (.cells (hvA zeroH) 33)).trans k5 (fun x hx hlt => by simp at hx; omega)); have K5 := Lib.hid (HKP.out.trans K15.out (by simp)); have ROW_8 := Lib.hid ((K15.out.block _ (lt_of_block G8.out) (by simp)).trans G8.out); have ROW_9 := Lib.hid ((K15.out.block _ (lt_of_block G9.out) (by simp)).trans G9.out); have H14 := Lib.hid h5; have HN2 := Lib.hid (Nat.le_trans h2 K5.out.size); clear h5 k5 s5))
                    refine wp_region_inv (by kernel_rfl) (fun a0 w0 l a w => ∃ b0 b1 b2 b3 b4 b5 b6 b7 : Bool, l = #[b0, b1, b2, b3, b4, b5, b6, b7] ∧ Same [93, 94, 95, 96, 97, 98] a0 a ∧ (b0 = true → a.tmps[93]? = some (.agg (hcs p).toArray)) ∧ (b1 = true → a.tmps[94]? = some (.agg (hcs f).toArray)) ∧ (b2 = true → a.tmps[95]? = some (.agg (hcs (nodeH p f)).toArray)) ∧ (b3 = true → a.tmps[96]? = some (.agg (hcs p).toArray)) ∧ (b4 = true → a.tmps[97]? = some (.agg (hcs s).toArray)) ∧ (b5 = true → a.tmps[98]? = some (.agg (hcs (nodeH p s)).toArray)) ∧ w.heap[n0 + 1]? = some (.cells (hvA (if b6 = true then nodeH p f else f)) 33 (0, 0)) ∧ w.heap[n0 + 1 + 1]? = some (.cells (hvA (if b7 = true then nodeH p s else s)) 33 (0, 0)) ∧ Kp [n0 + 1, n0 + 1 + 1] w0 w ∧ (b6 = true → b1 = true) ∧ (b7 = true → b4 = true)) ?_ ?_ ?_
                    · exact ⟨false, false, false, false, false, false, false, false, rfl, Same.refl _ _, by simp, by simp, by simp, by simp, by simp, by simp, ROW_8.out.drewB, ROW_9.out.drewB, (Kp.refl _ _).drew, by simp, by simp⟩
                    · intro l a w i hI hi
                      obtain ⟨b0, b1, b2, b3, b4, b5, b6, b7, rfl, hS, c0, c1, c2, c3, c4, c5, row_8, row_9, hk, q6_1, q7_4⟩ := hI
                      obtain ⟨hbi, o, ho, hdep⟩ := mem_ready.1 hi
                      have hlt : i < 8 := (Array.getElem?_eq_some_iff.1 ho).1
                      rcases (by omega : i = 0 ∨ i = 1 ∨ i = 2 ∨ i = 3 ∨ i = 4 ∨ i = 5 ∨ i = 6 ∨ i = 7) with rfl | rfl | rfl | rfl | rfl | rfl | rfl | rfl
                      · obtain rfl := Option.some.inj ho
                        have hb : b0 = false := by simpa using hbi
                        clear hdep hbi hi ho hlt
                        subst hb
                        refine wpOp_of rfl rfl ?_
                        refine wp_load_mid Tryd.thash rfl (cs := hcs (p)) (range_hv ((hk.block _ (lt_of_block H14.out) (by simp; omega)).trans H14.out)) (hcs_length _) ((hS.eval 14 (by decide)).trans rfl) ?_
                        exact ⟨true, b1, b2, b3, b4, b5, b6, b7, rfl, hS.put 93 _ (by simp), fun _ => put_self _ _ _ (by rw [hS.2.1]; exact Nat.le_of_ble_eq_true (by kernel_rfl)), fun h => (put_other _ _ _ _ (by decide)).trans (c1 h), fun h => (put_other _ _ _ _ (by decide)).trans (c2 h), fun h => (put_other _ _ _ _ (by decide)).trans (c3 h), fun h => (put_other _ _ _ _ (by decide)).trans (c4 h), fun h => (put_other _ _ _ _ (by decide)).trans (c5 h), row_8, row_9, hk, q6_1, q7_4⟩
                      · obtain rfl := Option.some.inj ho
                        have hb : b1 = false := by simpa using hbi
                        clear hdep hbi hi ho hlt
                        subst hb
                        have hns : b6 = false := by cases hh : b6 with | false => rfl | true => exact absurd (q6_1 hh) (by simp)
                        subst hns
                        refine wpOp_of rfl rfl ?_
                        refine wp_load_mid Tryd.thash rfl (cs := hcs (f)) (range_hv (by simpa using row_8)) (hcs_length _) ((hS.eval 8 (by decide)).trans rfl) ?_
                        exact ⟨b0, true, b2, b3, b4, b5, false, b7, rfl, hS.put 94 _ (by simp), fun h => (put_other _ _ _ _ (by decide)).trans (c0 h), fun _ => put_self _ _ _ (by rw [hS.2.1]; exact Nat.le_of_ble_eq_true (by kernel_rfl)), fun h => (put_other _ _ _ _ (by decide)).trans (c2 h), fun h => (put_other _ _ _ _ (by decide)).trans (c3 h), fun h => (put_other _ _ _ _ (by decide)).trans (c4 h), fun h => (put_other _ _ _ _ (by decide)).trans (c5 h), row_8, row_9, hk, fun _ => rfl, q7_4⟩
                      · obtain rfl := Option.some.inj ho
                        have hb : b2 = false := by simpa using hbi
                        have e0 : b0 = true := by revert hdep; cases b0 <;> simp [Region.binds]
                        have e1 : b1 = true := by revert hdep; cases b1 <;> simp [Region.binds]
                        clear hdep hbi hi ho hlt
                        subst hb
                        subst e0
                        subst e1
                        refine wpOp_of rfl rfl ?_
                        refine wp_node rfl (x := p) (y := f) (eval_at (c0 rfl)) (eval_at (c1 rfl)) ((HL.out.below K5.out).kept hk (by simp; omega)) (Nat.le_trans (HN2.out) hk.size) ?_
                        intro w2 k2
                        exact ⟨true, true, true, b3, b4, b5, b6, b7, rfl, hS.put 95 _ (by simp), fun h => (put_other _ _ _ _ (by decide)).trans (c0 h), fun h => (put_other _ _ _ _ (by decide)).trans (c1 h), fun _ => put_self _ _ _ (by rw [hS.2.1]; exact Nat.le_of_ble_eq_true (by kernel_rfl)), fun h => (put_other _ _ _ _ (by decide)).trans (c3 h), fun h => (put_other _ _ _ _ (by decide)).trans (c4 h), fun h => (put_other _ _ _ _ (by decide)).trans (c5 h), ((k2.block _ (lt_of_block row_8) (by simp)).trans row_8), ((k2.block _ (lt_of_block row_9) (by simp)).trans row_9), hk.trans k2 (by simp), fun _ => rfl, q7_4⟩
                      · obtain rfl := Option.some.inj ho
                        have hb : b3 = false := by simpa using hbi
                        clear hdep hbi hi ho hlt
                        subst hb
                        refine wpOp_of rfl rfl ?_
                        refine wp_load_mid Tryd.thash rfl (cs := hcs (p)) (range_hv ((hk.block _ (lt_of_block H14.out) (by simp; omega)).trans H14.out)) (hcs_length _) ((hS.eval 14 (by decide)).trans rfl) ?_
                        exact ⟨b0, b1, b2, true, b4, b5, b6, b7, rfl, hS.put 96 _ (by simp), fun h => (put_other _ _ _ _ (by decide)).trans (c0 h), fun h => (put_other _ _ _ _ (by decide)).trans (c1 h), fun h => (put_other _ _ _ _ (by decide)).trans (c2 h), fun _ => put_self _ _ _ (by rw [hS.2.1]; exact Nat.le_of_ble_eq_true (by kernel_rfl)), fun h => (put_other _ _ _ _ (by decide)).trans (c4 h), fun h => (put_other _ _ _ _ (by decide)).trans (c5 h), row_8, row_9, hk, q6_1, q7_4⟩
                      · obtain rfl := Option.some.inj ho
                        have hb : b4 = false := by simpa using hbi
                        clear hdep hbi hi ho hlt
                        subst hb
                        have hns : b7 = false := by cases hh : b7 with | false => rfl | true => exact absurd (q7_4 hh) (by simp)
                        subst hns
                        refine wpOp_of rfl rfl ?_
                        refine wp_load_mid Tryd.thash rfl (cs := hcs (s)) (range_hv (by simpa using row_9)) (hcs_length _) ((hS.eval 9 (by decide)).trans rfl) ?_
                        exact ⟨b0, b1, b2, b3, true, b5, b6, false, rfl, hS.put 97 _ (by simp), fun h => (put_other _ _ _ _ (by decide)).trans (c0 h), fun h => (put_other _ _ _ _ (by decide)).trans (c1 h), fun h => (put_other _ _ _ _ (by decide)).trans (c2 h), fun h => (put_other _ _ _ _ (by decide)).trans (c3 h), fun _ => put_self _ _ _ (by rw [hS.2.1]; exact Nat.le_of_ble_eq_true (by kernel_rfl)), fun h => (put_other _ _ _ _ (by decide)).trans (c5 h), row_8, row_9, hk, q6_1, fun _ => rfl⟩
                      · obtain rfl := Option.some.inj ho
                        have hb : b5 = false := by simpa using hbi
                        have e2 : b2 = true := by revert hdep; cases b2 <;> simp [Region.binds]
                        have e3 : b3 = true := by revert hdep; cases b3 <;> simp [Region.binds]
                        have e4 : b4 = true := by revert hdep; cases b4 <;> simp [Region.binds]
                        clear hdep hbi hi ho hlt
                        subst hb
                        subst e2
                        subst e3
                        subst e4
                        refine wpOp_of rfl rfl ?_
                        refine wp_node rfl (x := p) (y := s) (eval_at (c3 rfl)) (eval_at (c4 rfl)) ((HL.out.below K5.out).kept hk (by simp; omega)) (Nat.le_trans (HN2.out) hk.size) ?_
                        intro w2 k2
                        exact ⟨b0, b1, true, true, true, true, b6, b7, rfl, hS.put 98 _ (by simp), fun h => (put_other _ _ _ _ (by decide)).trans (c0 h), fun h => (put_other _ _ _ _ (by decide)).trans (c1 h), fun h => (put_other _ _ _ _ (by decide)).trans (c2 h), fun h => (put_other _ _ _ _ (by decide)).trans (c3 h), fun h => (put_other _ _ _ _ (by decide)).trans (c4 h), fun _ => put_self _ _ _ (by rw [hS.2.1]; exact Nat.le_of_ble_eq_true (by kernel_rfl)), ((k2.block _ (lt_of_block row_8) (by simp)).trans row_8), ((k2.block _ (lt_of_block row_9) (by simp)).trans row_9), hk.trans k2 (by simp), q6_1, fun _ => rfl⟩
                      · obtain rfl := Option.some.inj ho
                        have hb : b6 = false := by simpa using hbi
                        have e0 : b0 = true := by revert hdep; cases b0 <;> simp [Region.binds]
                        have e1 : b1 = true := by revert hdep; cases b1 <;> simp [Region.binds]
                        have e2 : b2 = true := by revert hdep; cases b2 <;> simp [Region.binds]
                        have e5 : b5 = true := by revert hdep; cases b5 <;> simp [Region.binds]
                        clear hdep hbi hi ho hlt
                        subst hb
                        subst e0
                        subst e1
                        subst e2
                        subst e5
                        refine wpOp_of rfl rfl ?_
                        refine wp_store_hash Tryd.thash rfl row_8 (hvA_size _) (hvA_size (nodeH p f)) (hvA_one _) ((hS.eval 8 (by decide)).trans rfl) (eval_at (c2 rfl)) ?_
                        intro w2 hg2 k2 s2
                        exact ⟨true, true, true, b3, b4, true, true, b7, rfl, hS, c0, c1, c2, c3, c4, c5, (by simpa using hg2), ((k2.block _ (lt_of_block row_9) (by simp)).trans row_9), hk.trans k2 (fun x hx _ => by simp at hx; simp [hx]), fun _ => rfl, q7_4⟩
                      · obtain rfl := Option.some.inj ho
                        have hb : b7 = false := by simpa using hbi
                        have e0 : b0 = true := by revert hdep; cases b0 <;> simp [Region.binds]
                        have e1 : b1 = true := by revert hdep; cases b1 <;> simp [Region.binds]
                        have e2 : b2 = true := by revert hdep; cases b2 <;> simp [Region.binds]
                        have e3 : b3 = true := by revert hdep; cases b3 <;> simp [Region.binds]
                        have e4 : b4 = true := by revert hdep; cases b4 <;> simp [Region.binds]
                        have e5 : b5 = true := by revert hdep; cases b5 <;> simp [Region.binds]
                        have e6 : b6 = true := by revert hdep; cases b6 <;> simp [Region.binds]
                        clear hdep hbi hi ho hlt
                        subst hb
                        subst e0
                        subst e1
                        subst e2
                        subst e3
                        subst e4
                        subst e5
                        subst e6
                        refine wpOp_of rfl rfl ?_
                        refine wp_store_hash Tryd.thash rfl row_9 (hvA_size _) (hvA_size (nodeH p s)) (hvA_one _) ((hS.eval 9 (by decide)).trans rfl) (eval_at (c5 rfl)) ?_
                        intro w2 hg2 k2 s2
                        exact ⟨true, true, true, true, true, true, true, true, rfl, hS, c0, c1, c2, c3, c4, c5, ((k2.block _ (lt_of_block row_8) (by simp)).trans row_8), (by simpa using hg2), hk.trans k2 (fun x hx _ => by simp at hx; simp [hx]), fun _ => rfl, fun _ => rfl⟩
                    · intro l a w hI hr
                      obtain ⟨b0, b1, b2, b3, b4, b5, b6, b7, rfl, hS, c0, c1, c2, c3, c4, c5, row_8, row_9, hk, q6_1, q7_4⟩ := hI
                      have f0 : b0 = true := by
                        cases hh : b0 with
                        | true => rfl
                        | false =>
                          refine absurd ?_ (List.not_mem_nil (a := 0))
                          rw [← hr]
                          exact mem_ready.2 ⟨by simpa using hh, _, rfl, by simp [Region.binds]⟩
                      subst f0
                      have f1 : b1 = true := by
                        cases hh : b1 with
                        | true => rfl
                        | false =>
                          refine absurd ?_ (List.not_mem_nil (a := 1))
                          rw [← hr]
                          exact mem_ready.2 ⟨by simpa using hh, _, rfl, by simp [Region.binds]⟩
                      subst f1
                      have f2 : b2 = true := by
                        cases hh : b2 with
                        | true => rfl
                        | false =>
                          refine absurd ?_ (List.not_mem_nil (a := 2))
                          rw [← hr]
                          exact mem_ready.2 ⟨by simpa using hh, _, rfl, by simp [Region.binds]⟩
                      subst f2
                      have f3 : b3 = true := by
                        cases hh : b3 with
                        | true => rfl
                        | false =>
                          refine absurd ?_ (List.not_mem_nil (a := 3))
                          rw [← hr]
                          exact mem_ready.2 ⟨by simpa using hh, _, rfl, by simp [Region.binds]⟩
                      subst f3
                      have f4 : b4 = true := by
                        cases hh : b4 with
                        | true => rfl
                        | false =>
                          refine absurd ?_ (List.not_mem_nil (a := 4))
                          rw [← hr]
                          exact mem_ready.2 ⟨by simpa using hh, _, rfl, by simp [Region.binds]⟩
                      subst f4
                      have f5 : b5 = true := by
                        cases hh : b5 with
                        | true => rfl
                        | false =>
                          refine absurd ?_ (List.not_mem_nil (a := 5))
                          rw [← hr]
                          exact mem_ready.2 ⟨by simpa using hh, _, rfl, by simp [Region.binds]⟩
                      subst f5
                      have f6 : b6 = true := by
                        cases hh : b6 with
                        | true => rfl
                        | false =>
                          refine absurd ?_ (List.not_mem_nil (a := 6))
                          rw [← hr]
                          exact mem_ready.2 ⟨by simpa using hh, _, rfl, by simp [Region.binds]⟩
                      subst f6
                      have f7 : b7 = true := by
                        cases hh : b7 with
                        | true => rfl
                        | false =>
                          refine absurd ?_ (List.not_mem_nil (a := 7))
                          rw [← hr]
                          exact mem_ready.2 ⟨by simpa using hh, _, rfl, by simp [Region.binds]⟩
                      subst f7
                      obtain rfl := Same.eq ((((((hS.take (c0 rfl)).take (c1 rfl)).take (c2 rfl)).take (c3 rfl)).take (c4 rfl)).take (c5 rfl))
                      simp only [if_true] at row_8
                      simp only [if_true] at row_9
                      try simp only [Act.put, List.setIfInBounds_toArray, List.set_cons_zero, List.set_cons_succ]
                      have K7 := Lib.hid (K5.out.trans hk (fun x hx hlt => by simp at hx; rw [← HN0.out] at hlt; omega))
                      have H8 := Lib.hid row_8
                      have H9 := Lib.hid row_9
                      clear hr hk row_8 row_9 c0 c1 c2 c3 c4 c5 q6_1 q7_4 hS
                      go_wp2_with fail
                      refine (climb_odd x y _ HX.out).mono ?_
                      rintro e w8 ⟨rfl, rfl⟩
                      clear hx
                      go_wp2
                      go_roundw
                      case rel =>
                        refine ⟨k + 1, x / 2, y / 2, nodeH p f, nodeH p s, by omega, by go_num, by go_num, by omega, by omega, by go_num, ?_, H8.out, H9.out, K7.out⟩
                        rw [← HLD.out, HDR.out, bothF, if_neg HY0.out, if_pos HX.out]
                      case measure => simp [intOf]; omega
                  · have HX := Lib.hid hx
                    by_cases hl : x = y
                    · subst hl
                      have hx1 : ((x : Int) % 2 == 1) = false := by rw [beq_eq_false_iff_ne]; omega
                      have hxp : 0 < x := by have := HY0.out; omega
                      have hod := odd_le x
                      obtain ⟨od, ho⟩ : ∃ od, od = odd x := ⟨_, rfl⟩
                      rw [← ho] at hod
                      have HO := Lib.hid ho
                      have HC := Lib.hid (fun W => climb_same x W hxp (by omega))
                      rw [← ho] at HC
                      clear hx ho
                      go_wp2_with (first | (refine wpList_get_mid Tryd.thash rfl rfl HRA.out (hcs_length _) rfl ?_) | (refine wpList_set Tryd.thash rfl rfl (heap_alloc_new wr _) (hvA_size zeroH) (hvA_size p) (hvA_one _) rfl rfl ?_; intro w5 h5 k5 s5; have K15 := Lib.hid (((Kp.refl [] wr).alloc (.cells (hvA zeroH) 33)).trans k5 (fun x hx hlt => by simp at hx; omega)); have K5 := Lib.hid (HKP.out.trans K15.out (by simp)); have ROW_8 := Lib.hid ((K15.out.block _ (lt_of_block G8.out) (by simp)).trans G8.out); have ROW_9 := Lib.hid ((K15.out.block _ (lt_of_block G9.out) (by simp)).trans G9.out); have H14 := Lib.hid h5; have HN2 := Lib.hid (Nat.le_trans h2 K5.out.size); clear h5 k5 s5))
                      refine wp_region_inv (by kernel_rfl) (fun a0 w0 l a w => ∃ b0 b1 b2 b3 b4 b5 b6 b7 : Bool, l = #[b0, b1, b2, b3, b4, b5, b6, b7] ∧ Same [93, 94, 95, 96, 97, 98] a0 a ∧ (b0 = true → a.tmps[93]? = some (.agg (hcs p).toArray)) ∧ (b1 = true → a.tmps[94]? = some (.agg (hcs f).toArray)) ∧ (b2 = true → a.tmps[95]? = some (.agg (hcs (nodeH p f)).toArray)) ∧ (b3 = true → a.tmps[96]? = some (.agg (hcs p).toArray)) ∧ (b4 = true → a.tmps[97]? = some (.agg (hcs s).toArray)) ∧ (b5 = true → a.tmps[98]? = some (.agg (hcs (nodeH p s)).toArray)) ∧ w.heap[n0 + 1]? = some (.cells (hvA (if b6 = true then nodeH p f else f)) 33 (0, 0)) ∧ w.heap[n0 + 1 + 1]? = some (.cells (hvA (if b7 = true then nodeH p s else s)) 33 (0, 0)) ∧ Kp [n0 + 1, n0 + 1 + 1] w0 w ∧ (b6 = true → b1 = true) ∧ (b7 = true → b4 = true)) ?_ ?_ ?_
                      · exact ⟨false, false, false, false, false, false, false, false, rfl, Same.refl _ _, by simp, by simp, by simp, by simp, by simp, by simp, ROW_8.out.drewB, ROW_9.out.drewB, (Kp.refl _ _).drew, by simp, by simp⟩
                      · intro l a w i hI hi
                        obtain ⟨b0, b1, b2, b3, b4, b5, b6, b7, rfl, hS, c0, c1, c2, c3, c4, c5, row_8, row_9, hk, q6_1, q7_4⟩ := hI
                        obtain ⟨hbi, o, ho, hdep⟩ := mem_ready.1 hi
                        have hlt : i < 8 := (Array.getElem?_eq_some_iff.1 ho).1
                        rcases (by omega : i = 0 ∨ i = 1 ∨ i = 2 ∨ i = 3 ∨ i = 4 ∨ i = 5 ∨ i = 6 ∨ i = 7) with rfl | rfl | rfl | rfl | rfl | rfl | rfl | rfl
                        · obtain rfl := Option.some.inj ho
                          have hb : b0 = false := by simpa using hbi
                          clear hdep hbi hi ho hlt
                          subst hb
                          refine wpOp_of rfl rfl ?_
                          refine wp_load_mid Tryd.thash rfl (cs := hcs (p)) (range_hv ((hk.block _ (lt_of_block H14.out) (by simp; omega)).trans H14.out)) (hcs_length _) ((hS.eval 14 (by decide)).trans rfl) ?_
                          exact ⟨true, b1, b2, b3, b4, b5, b6, b7, rfl, hS.put 93 _ (by simp), fun _ => put_self _ _ _ (by rw [hS.2.1]; exact Nat.le_of_ble_eq_true (by kernel_rfl)), fun h => (put_other _ _ _ _ (by decide)).trans (c1 h), fun h => (put_other _ _ _ _ (by decide)).trans (c2 h), fun h => (put_other _ _ _ _ (by decide)).trans (c3 h), fun h => (put_other _ _ _ _ (by decide)).trans (c4 h), fun h => (put_other _ _ _ _ (by decide)).trans (c5 h), row_8, row_9, hk, q6_1, q7_4⟩
                        · obtain rfl := Option.some.inj ho
                          have hb : b1 = false := by simpa using hbi
                          clear hdep hbi hi ho hlt
                          subst hb
                          have hns : b6 = false := by cases hh : b6 with | false => rfl | true => exact absurd (q6_1 hh) (by simp)
                          subst hns
                          refine wpOp_of rfl rfl ?_
                          refine wp_load_mid Tryd.thash rfl (cs := hcs (f)) (range_hv (by simpa using row_8)) (hcs_length _) ((hS.eval 8 (by decide)).trans rfl) ?_
                          exact ⟨b0, true, b2, b3, b4, b5, false, b7, rfl, hS.put 94 _ (by simp), fun h => (put_other _ _ _ _ (by decide)).trans (c0 h), fun _ => put_self _ _ _ (by rw [hS.2.1]; exact Nat.le_of_ble_eq_true (by kernel_rfl)), fun h => (put_other _ _ _ _ (by decide)).trans (c2 h), fun h => (put_other _ _ _ _ (by decide)).trans (c3 h), fun h => (put_other _ _ _ _ (by decide)).trans (c4 h), fun h => (put_other _ _ _ _ (by decide)).trans (c5 h), row_8, row_9, hk, fun _ => rfl, q7_4⟩
                        · obtain rfl := Option.some.inj ho
                          have hb : b2 = false := by simpa using hbi
                          have e0 : b0 = true := by revert hdep; cases b0 <;> simp [Region.binds]
                          have e1 : b1 = true := by revert hdep; cases b1 <;> simp [Region.binds]
                          clear hdep hbi hi ho hlt
                          subst hb
                          subst e0
                          subst e1
                          refine wpOp_of rfl rfl ?_
                          refine wp_node rfl (x := p) (y := f) (eval_at (c0 rfl)) (eval_at (c1 rfl)) ((HL.out.below K5.out).kept hk (by simp; omega)) (Nat.le_trans (HN2.out) hk.size) ?_
                          intro w2 k2
                          exact ⟨true, true, true, b3, b4, b5, b6, b7, rfl, hS.put 95 _ (by simp), fun h => (put_other _ _ _ _ (by decide)).trans (c0 h), fun h => (put_other _ _ _ _ (by decide)).trans (c1 h), fun _ => put_self _ _ _ (by rw [hS.2.1]; exact Nat.le_of_ble_eq_true (by kernel_rfl)), fun h => (put_other _ _ _ _ (by decide)).trans (c3 h), fun h => (put_other _ _ _ _ (by decide)).trans (c4 h), fun h => (put_other _ _ _ _ (by decide)).trans (c5 h), ((k2.block _ (lt_of_block row_8) (by simp)).trans row_8), ((k2.block _ (lt_of_block row_9) (by simp)).trans row_9), hk.trans k2 (by simp), fun _ => rfl, q7_4⟩
                        · obtain rfl := Option.some.inj ho
                          have hb : b3 = false := by simpa using hbi
                          clear hdep hbi hi ho hlt
                          subst hb
                          refine wpOp_of rfl rfl ?_
                          refine wp_load_mid Tryd.thash rfl (cs := hcs (p)) (range_hv ((hk.block _ (lt_of_block H14.out) (by simp; omega)).trans H14.out)) (hcs_length _) ((hS.eval 14 (by decide)).trans rfl) ?_
                          exact ⟨b0, b1, b2, true, b4, b5, b6, b7, rfl, hS.put 96 _ (by simp), fun h => (put_other _ _ _ _ (by decide)).trans (c0 h), fun h => (put_other _ _ _ _ (by decide)).trans (c1 h), fun h => (put_other _ _ _ _ (by decide)).trans (c2 h), fun _ => put_self _ _ _ (by rw [hS.2.1]; exact Nat.le_of_ble_eq_true (by kernel_rfl)), fun h => (put_other _ _ _ _ (by decide)).trans (c4 h), fun h => (put_other _ _ _ _ (by decide)).trans (c5 h), row_8, row_9, hk, q6_1, q7_4⟩
                        · obtain rfl := Option.some.inj ho
                          have hb : b4 = false := by simpa using hbi
                          clear hdep hbi hi ho hlt
                          subst hb
                          have hns : b7 = false := by cases hh : b7 with | false => rfl | true => exact absurd (q7_4 hh) (by simp)
                          subst hns
                          refine wpOp_of rfl rfl ?_
                          refine wp_load_mid Tryd.thash rfl (cs := hcs (s)) (range_hv (by simpa using row_9)) (hcs_length _) ((hS.eval 9 (by decide)).trans rfl) ?_
                          exact ⟨b0, b1, b2, b3, true, b5, b6, false, rfl, hS.put 97 _ (by simp), fun h => (put_other _ _ _ _ (by decide)).trans (c0 h), fun h => (put_other _ _ _ _ (by decide)).trans (c1 h), fun h => (put_other _ _ _ _ (by decide)).trans (c2 h), fun h => (put_other _ _ _ _ (by decide)).trans (c3 h), fun _ => put_self _ _ _ (by rw [hS.2.1]; exact Nat.le_of_ble_eq_true (by kernel_rfl)), fun h => (put_other _ _ _ _ (by decide)).trans (c5 h), row_8, row_9, hk, q6_1, fun _ => rfl⟩
                        · obtain rfl := Option.some.inj ho
                          have hb : b5 = false := by simpa using hbi
                          have e2 : b2 = true := by revert hdep; cases b2 <;> simp [Region.binds]
                          have e3 : b3 = true := by revert hdep; cases b3 <;> simp [Region.binds]
                          have e4 : b4 = true := by revert hdep; cases b4 <;> simp [Region.binds]
                          clear hdep hbi hi ho hlt
                          subst hb
                          subst e2
                          subst e3
                          subst e4
                          refine wpOp_of rfl rfl ?_
                          refine wp_node rfl (x := p) (y := s) (eval_at (c3 rfl)) (eval_at (c4 rfl)) ((HL.out.below K5.out).kept hk (by simp; omega)) (Nat.le_trans (HN2.out) hk.size) ?_
                          intro w2 k2
                          exact ⟨b0, b1, true, true, true, true, b6, b7, rfl, hS.put 98 _ (by simp), fun h => (put_other _ _ _ _ (by decide)).trans (c0 h), fun h => (put_other _ _ _ _ (by decide)).trans (c1 h), fun h => (put_other _ _ _ _ (by decide)).trans (c2 h), fun h => (put_other _ _ _ _ (by decide)).trans (c3 h), fun h => (put_other _ _ _ _ (by decide)).trans (c4 h), fun _ => put_self _ _ _ (by rw [hS.2.1]; exact Nat.le_of_ble_eq_true (by kernel_rfl)), ((k2.block _ (lt_of_block row_8) (by simp)).trans row_8), ((k2.block _ (lt_of_block row_9) (by simp)).trans row_9), hk.trans k2 (by simp), q6_1, fun _ => rfl⟩
                        · obtain rfl := Option.some.inj ho
                          have hb : b6 = false := by simpa using hbi
                          have e0 : b0 = true := by revert hdep; cases b0 <;> simp [Region.binds]
                          have e1 : b1 = true := by revert hdep; cases b1 <;> simp [Region.binds]
                          have e2 : b2 = true := by revert hdep; cases b2 <;> simp [Region.binds]
                          have e5 : b5 = true := by revert hdep; cases b5 <;> simp [Region.binds]
                          clear hdep hbi hi ho hlt
                          subst hb
                          subst e0
                          subst e1
                          subst e2
                          subst e5
                          refine wpOp_of rfl rfl ?_
                          refine wp_store_hash Tryd.thash rfl row_8 (hvA_size _) (hvA_size (nodeH p f)) (hvA_one _) ((hS.eval 8 (by decide)).trans rfl) (eval_at (c2 rfl)) ?_
                          intro w2 hg2 k2 s2
                          exact ⟨true, true, true, b3, b4, true, true, b7, rfl, hS, c0, c1, c2, c3, c4, c5, (by simpa using hg2), ((k2.block _ (lt_of_block row_9) (by simp)).trans row_9), hk.trans k2 (fun x hx _ => by simp at hx; simp [hx]), fun _ => rfl, q7_4⟩
                        · obtain rfl := Option.some.inj ho
                          have hb : b7 = false := by simpa using hbi
                          have e0 : b0 = true := by revert hdep; cases b0 <;> simp [Region.binds]
                          have e1 : b1 = true := by revert hdep; cases b1 <;> simp [Region.binds]
                          have e2 : b2 = true := by revert hdep; cases b2 <;> simp [Region.binds]
                          have e3 : b3 = true := by revert hdep; cases b3 <;> simp [Region.binds]
                          have e4 : b4 = true := by revert hdep; cases b4 <;> simp [Region.binds]
                          have e5 : b5 = true := by revert hdep; cases b5 <;> simp [Region.binds]
                          have e6 : b6 = true := by revert hdep; cases b6 <;> simp [Region.binds]
                          clear hdep hbi hi ho hlt
                          subst hb
                          subst e0
                          subst e1
                          subst e2
                          subst e3
                          subst e4
                          subst e5
                          subst e6
                          refine wpOp_of rfl rfl ?_
                          refine wp_store_hash Tryd.thash rfl row_9 (hvA_size _) (hvA_size (nodeH p s)) (hvA_one _) ((hS.eval 9 (by decide)).trans rfl) (eval_at (c5 rfl)) ?_
                          intro w2 hg2 k2 s2
                          exact ⟨true, true, true, true, true, true, true, true, rfl, hS, c0, c1, c2, c3, c4, c5, ((k2.block _ (lt_of_block row_8) (by simp)).trans row_8), (by simpa using hg2), hk.trans k2 (fun x hx _ => by simp at hx; simp [hx]), fun _ => rfl, fun _ => rfl⟩
                      · intro l a w hI hr
                        obtain ⟨b0, b1, b2, b3, b4, b5, b6, b7, rfl, hS, c0, c1, c2, c3, c4, c5, row_8, row_9, hk, q6_1, q7_4⟩ := hI
                        have f0 : b0 = true := by
                          cases hh : b0 with
                          | true => rfl
                          | false =>
                            refine absurd ?_ (List.not_mem_nil (a := 0))
                            rw [← hr]
                            exact mem_ready.2 ⟨by simpa using hh, _, rfl, by simp [Region.binds]⟩
                        subst f0
                        have f1 : b1 = true := by
                          cases hh : b1 with
                          | true => rfl
                          | false =>
                            refine absurd ?_ (List.not_mem_nil (a := 1))
                            rw [← hr]
                            exact mem_ready.2 ⟨by simpa using hh, _, rfl, by simp [Region.binds]⟩
                        subst f1
                        have f2 : b2 = true := by
                          cases hh : b2 with
                          | true => rfl
                          | false =>
                            refine absurd ?_ (List.not_mem_nil (a := 2))
                            rw [← hr]
                            exact mem_ready.2 ⟨by simpa using hh, _, rfl, by simp [Region.binds]⟩
                        subst f2
                        have f3 : b3 = true := by
                          cases hh : b3 with
                          | true => rfl
                          | false =>
                            refine absurd ?_ (List.not_mem_nil (a := 3))
                            rw [← hr]
                            exact mem_ready.2 ⟨by simpa using hh, _, rfl, by simp [Region.binds]⟩
                        subst f3
                        have f4 : b4 = true := by
                          cases hh : b4 with
                          | true => rfl
                          | false =>
                            refine absurd ?_ (List.not_mem_nil (a := 4))
                            rw [← hr]
                            exact mem_ready.2 ⟨by simpa using hh, _, rfl, by simp [Region.binds]⟩
                        subst f4
                        have f5 : b5 = true := by
                          cases hh : b5 with
                          | true => rfl
                          | false =>
                            refine absurd ?_ (List.not_mem_nil (a := 5))
                            rw [← hr]
                            exact mem_ready.2 ⟨by simpa using hh, _, rfl, by simp [Region.binds]⟩
                        subst f5
                        have f6 : b6 = true := by
                          cases hh : b6 with
                          | true => rfl
                          | false =>
                            refine absurd ?_ (List.not_mem_nil (a := 6))
                            rw [← hr]
                            exact mem_ready.2 ⟨by simpa using hh, _, rfl, by simp [Region.binds]⟩
                        subst f6
                        have f7 : b7 = true := by
                          cases hh : b7 with
                          | true => rfl
                          | false =>
                            refine absurd ?_ (List.not_mem_nil (a := 7))
                            rw [← hr]
                            exact mem_ready.2 ⟨by simpa using hh, _, rfl, by simp [Region.binds]⟩
                        subst f7
                        obtain rfl := Same.eq ((((((hS.take (c0 rfl)).take (c1 rfl)).take (c2 rfl)).take (c3 rfl)).take (c4 rfl)).take (c5 rfl))
                        simp only [if_true] at row_8
                        simp only [if_true] at row_9
                        try simp only [Act.put, List.setIfInBounds_toArray, List.set_cons_zero, List.set_cons_succ]
                        have K7 := Lib.hid (K5.out.trans hk (fun x hx hlt => by simp at hx; rw [← HN0.out] at hlt; omega))
                        have H8 := Lib.hid row_8
                        have H9 := Lib.hid row_9
                        clear hr hk row_8 row_9 c0 c1 c2 c3 c4 c5 q6_1 q7_4 hS
                        go_wp2_with fail
                        refine (HC.out _).mono ?_
                        rintro e w8 ⟨rfl, rfl⟩
                        go_wp2
                        go_roundw
                        case rel =>
                          refine ⟨k + 1, od / 2, od / 2, nodeH p f, nodeH p s, by omega, by go_num, by go_num, by omega, by omega, by go_num, ?_, H8.out, H9.out, K7.out⟩
                          rw [← HLD.out, HDR.out, bothF, if_neg HY0.out, if_neg HX.out, if_pos rfl, ← HO.out]
                        case measure => simp [intOf]; omega
                    · have hx1 : ((x : Int) % 2 == 1) = false := by rw [beq_eq_false_iff_ne]; omega
                      have hl1 : ((x : Int) == (y : Int)) = false := by rw [beq_eq_false_iff_ne]; omega
                      have HLN := Lib.hid hl
                      clear hx hl
                      go_wp2_with (first | (refine wpList_get_mid Tryd.thash rfl rfl HRA.out (hcs_length _) rfl ?_) | (refine wpList_set Tryd.thash rfl rfl (heap_alloc_new wr _) (hvA_size zeroH) (hvA_size p) (hvA_one _) rfl rfl ?_; intro w5 h5 k5 s5; have K15 := Lib.hid (((Kp.refl [] wr).alloc (.cells (hvA zeroH) 33)).trans k5 (fun x hx hlt => by simp at hx; omega)); have K5 := Lib.hid (HKP.out.trans K15.out (by simp)); have ROW_8 := Lib.hid ((K15.out.block _ (lt_of_block G8.out) (by simp)).trans G8.out); have ROW_9 := Lib.hid ((K15.out.block _ (lt_of_block G9.out) (by simp)).trans G9.out); have H14 := Lib.hid h5; have HN2 := Lib.hid (Nat.le_trans h2 K5.out.size); clear h5 k5 s5) | (refine wpList_get Tryd.thash rfl rfl H14.out (hvA_size _) rfl ?_) | (refine wpList_get Tryd.thash rfl rfl ROW_9.out (hvA_size _) rfl ?_))
                      refine (node_any s p _ (HL.out.below K5.out) HN2.out).mono ?_
                      rintro e w6 ⟨rfl, k6⟩
                      have K6 := Lib.hid (K5.out.trans k6 (by simp))
                      have G96 := Lib.hid ((k6.block _ (lt_of_block ROW_9.out) (by simp)).trans ROW_9.out)
                      have G86 := Lib.hid ((k6.block _ (lt_of_block ROW_8.out) (by simp)).trans ROW_8.out)
                      clear k6
                      go_wp2_with (refine wpList_set Tryd.thash rfl rfl G96.out (hvA_size _) (hvA_size _) (hvA_one (nodeH s p)) rfl rfl ?_; intro w7 h7 k7 s7; have H7 := Lib.hid h7; have K7 := Lib.hid (K6.out.trans k7 (fun x hx hlt => by simp at hx; rw [← HN0.out] at hlt; omega)); have G87 := Lib.hid ((k7.block _ (lt_of_block G86.out) (by simp)).trans G86.out); clear h7 k7 s7)
                      go_roundw
                      case rel =>
                        refine ⟨k + 1, x / 2, y / 2, f, nodeH s p, by omega, by go_num, by go_num, by omega, by omega, by go_num, ?_, G87.out, H7.out, K7.out⟩
                        rw [← HLD.out, HDR.out, bothF, if_neg HY0.out, if_neg HX.out, if_neg HLN.out]
                      case measure => simp [intOf]; omega
              · obtain rfl : k = qs.length := by omega
                have HSZ := Lib.hid hkp.size
                clear hkp
                rw [List.drop_length] at HLD
                by_cases hy0 : y = 0
                · subst hy0
                  have hty : Tryd.prog.underlying 33 = some (.array 32 5) := Tryd.underlying33
                  have hsF : (Tryd.prog.info? 33).map (·.size) = some (hcs f).length := by rw [hcs_length]; exact Tryd.thash.s
                  have hsS : (Tryd.prog.info? 33).map (·.size) = some (hcs s).length := by rw [hcs_length]; exact Tryd.thash.s
                  go_wp2_with fail
                  refine wp_region_held_drew (S := fun W => W.heap[n0 + 1]? = some (.cells (hvA f) 33 (0, 0)) ∧ W.heap[n0 + 1 + 1]? = some (.cells (hvA s) 33 (0, 0))) (by kernel_rfl) ⟨G8.out.drewB, G9.out.drewB⟩ (fun hHeld => ?_)
                  refine takeD (i := 0) (dst := (some 117)) (v := _) rfl rfl (by kernel_rfl) (by kernel_rfl) (by kernel_rfl) (fun _ _ _ h => h) (yieldsIf_load_mid (by rfl) _ _ rfl _ _ rfl _ _ (fun _ h => range_hv h.1) hty rfl hsF) (by assumption) ?_
                  try simp only [Act.put, List.setIfInBounds_toArray, List.set_cons_zero, List.set_cons_succ]
                  refine takeD (i := 1) (dst := (some 118)) (v := _) rfl rfl (by kernel_rfl) (by kernel_rfl) (by kernel_rfl) (fun _ _ _ h => h) (yieldsIf_load_mid (by rfl) _ _ rfl _ _ rfl _ _ (fun _ h => range_hv h.2) hty rfl hsS) (by assumption) ?_
                  try simp only [Act.put, List.setIfInBounds_toArray, List.set_cons_zero, List.set_cons_succ]
                  refine wpAnyH_ready (rs := [2]) (by kernel_rfl) (by simp) ?_
                  refine AllReadyH.cons rfl (fun K hK => ?_) AllReadyH.nil
                  rw [if_pos (by rfl)]
                  refine wp_store_hash Tryd.thash rfl hHeld.1 (hvA_size _) (hvA_size f) (hvA_one _) rfl rfl ?_
                  intro w8 h8 k8 s8
                  refine hK.out _ _ ⟨h8, (k8.block _ (lt_of_block hHeld.2) (by simp)).trans hHeld.2⟩ (fun hHeld2 => ?_)
                  clear hK K
                  try simp only [Act.put, List.setIfInBounds_toArray]
                  refine wpAnyH_ready (rs := [3]) (by kernel_rfl) (by simp) ?_
                  refine AllReadyH.cons rfl (fun K hK => ?_) AllReadyH.nil
                  rw [if_pos (by rfl)]
                  refine wp_store_hash Tryd.thash rfl hHeld2.2 (hvA_size _) (hvA_size s) (hvA_one _) rfl rfl ?_
                  intro w9 h9 k9 s9
                  refine hK.out _ _ ⟨(k9.block _ (lt_of_block h8) (by simp)).trans h8, h9⟩ (fun hHeld3 => ?_)
                  clear hK K
                  try simp only [Act.put]
                  refine takeD (i := 4) (dst := (some 10)) (v := ?_) rfl rfl (by kernel_rfl) (by kernel_rfl) (by kernel_rfl) (fun _ _ _ h => h) (Or.inl ⟨by rfl, ?_⟩) (by assumption) ?_
                  rotate_left
                  · intro w' hSw
                    go_simp
                    all_goals (with_reducible rfl)
                  try simp only [Act.put]
                  refine wpAnyH_done (by kernel_rfl) ?_ _
                  have H8 := Lib.hid hHeld3.1
                  have H9 := Lib.hid hHeld3.2
                  have KK := Lib.hid ((HKP.out.drew.trans k8 (fun x hx hlt => by simp at hx; rw [← HN0.out] at hlt; omega)).trans k9 (fun x hx hlt => by simp at hx; rw [← HN0.out] at hlt; omega))
                  have HO2 := Lib.hid (show o = some (f, s) by rw [← HLD.out, bothF, if_pos rfl])
                  clear h8 h9 k8 k9 s8 s9 hHeld hHeld2 hHeld3 hty hsF hsS
                  go_wp2
                  refine ret_block2_tmp Tryd.thash rfl H8.out (hvA_size _) rfl H9.out (hvA_size _) rfl rfl rfl ⟨?_, KK.out⟩
                  rw [HO2.out]; rfl
                · have hy1 : ((y : Int) == 0) = false := by rw [beq_eq_false_iff_ne]; omega
                  have HO2 := Lib.hid (show o = none by rw [← HLD.out, bothF, if_neg hy0])
                  have tokA : True := trivial
                  go_wp2_with (first | (have _t := tokA; refine wpList_set Tryd.thash rfl rfl G8.out (hvA_size _) (hvA_size zeroH) (hvA_one _) rfl rfl ?_; clear tokA; intro w7 h7 k7 s7; have H7 := Lib.hid h7; have K7 := Lib.hid (HKP.out.trans k7 (fun x hx hlt => by simp at hx; rw [← HN0.out] at hlt; omega)); have G97 := Lib.hid ((k7.block _ (lt_of_block G9.out) (by simp)).trans G9.out); clear h7 k7 s7) | (refine wpList_set Tryd.thash rfl rfl G97.out (hvA_size _) (hvA_size zeroH) (hvA_one _) rfl rfl ?_; intro w9 h9 k9 s9))
                  refine ret_block2_tmp Tryd.thash rfl ((k9.block _ (lt_of_block H7.out) (by simp)).trans H7.out) (hvA_size _) rfl h9 (hvA_size _) rfl rfl rfl ⟨?_, ?_⟩
                  · rw [HO2.out]; rfl
                  · exact K7.out.trans k9 (fun x hx hlt => by simp at hx; rw [← HN0.out] at hlt; omega)
end Go.Proofs.YtalnkhgonfcabaaDoor
