/-
  Digest.Write: a block that has been begun.
-/
import Derived.Test.YtgfppmnpccaloaaDoorSha4
namespace Go.Proofs.YtgfppmnpccaloaaDoor
open Go.RowKit

set_option maxRecDepth 100000 in
set_option maxHeartbeats 4000000 in
theorem write_short (p : Nat) (m : List UInt8) (F : List Nat) (ab : Option Addr) (cb : Nat) (b : List UInt8) (w : World) (h : DigAt w p m F) (hr0 : restOf m ≠ []) (hk : (restOf m).length + b.length < 64) (hb : Rd w ab b.length cb 1 (bcs b)) (hF : 0 < b.length → ∀ x ∈ aF ab, x ∉ F) (hF2 : ∀ x ∈ F, 2 ≤ x) :
    Calls Tryd.prog 15 #[.pointer (some ⟨p, 0, none⟩), .slice ab b.length cb] w fun e w' => e = .returned (.tuple #[]) ∧ ∃ F', DigAt w' p (m ++ b) F' ∧ Adv F F' w w' := by
  obtain ⟨a, c, hp, hown, rfl⟩ := h
  obtain ⟨q, hq⟩ : ∃ q, q = cnt m.length := ⟨_, rfl⟩
  obtain ⟨q2, hq2⟩ : ∃ q2, q2 = cnt (m ++ b).length := ⟨_, rfl⟩
  have dq : IntKind.i64.wrap (q + (b.length : Int)) = q2 := by rw [hq, hq2, List.length_append]; exact cnt_add _ _
  rw [← hq] at hp
  have HCQ := Lib.hid hq2
  clear hq hq2
  obtain ⟨r0, hr0'⟩ : ∃ r0, r0 = restOf m := ⟨_, rfl⟩
  have hrl0 : r0.length < 64 := by rw [hr0', restOf_length]; omega
  have hpos : 0 < r0.length := by rw [hr0']; exact List.length_pos_iff.2 hr0
  rw [← hr0'] at hp hown hk
  have HR0 := Lib.hid hr0'
  have HF := Lib.hid hF
  have HF2 := Lib.hid hF2
  have HB := Lib.hid hb
  have hbmax := hb.max
  have hble := hb.le
  unfold maxLen at hbmax
  have c8 := dig_c8 hp
  have c9 := dig_c9 hp
  have z9 := frozen_of_row w p 9 _ _ hp
  have z8 := frozen_of_row w p 8 _ _ hp
  have HP := Lib.hid hp
  have HO := Lib.hid hown
  have hplt := lt_of_block hp
  have hne : p ∉ aF a := by
    have := own_ne hp hown (by decide)
    intro hh; cases a with
    | none => simp [aF] at hh
    | some ad => simp [aF] at hh; exact this (by simp [Value.ownBlock, hh])
  have HNE := Lib.hid hne
  obtain ⟨i0, T⟩ := Tryd.tbytes
  have HT := Lib.hid T
  clear hp hown hr0 hr0' hF hF2 hb hne T
  have hmin : ¬ ((64 : Int) - (r0.length : Int) < (b.length : Int)) := by omega
  have hmin2 : (b.length : Int) ≤ 64 - (r0.length : Int) := by omega
  have hmin3 : min ((64 : Int) - (r0.length : Int)) (b.length : Int) = (b.length : Int) := by omega
  have hpos2 : (0 : Int) < (r0.length : Int) := by omega
  have hb0 : (0 : Int) ≤ (b.length : Int) := by omega
  have hb1 : (b.length : Int) ≤ (cb : Int) := by omega
  go_enter Tryd.func15, Tryd.ntmps15
  go_wp2
  obtain ⟨w1, hw1⟩ : ∃ w1, w1 = w.setCell ⟨p, 9, none⟩ (.int .i64 q2) := ⟨_, rfl⟩
  rw [← hw1]
  have hk1 : Kp [p] w w1 := by rw [hw1]; exact (Kp.refl _ _).setCell (.inl (by simp)) _
  have hp1 : w1.heap[p]? = some (.cells (digA (stOf m) (.slice a r0.length c) q2) 52 (0, 0)) := by
    rw [hw1, heap_setCell_same w p 9 _ _ _ HP.out]; rfl
  have HO1 := Lib.hid (row_kept HO.out hk1 (fun x hx hh => HNE.out (by simp at hh; rwa [hh] at hx)))
  have HB1 := Lib.hid (HB.out.kept2 hk1 (fun h0 x hx hh => HF.out (by rw [bcs_length] at h0; exact h0) x hx (by simp at hh; simp [hh])))
  have HK1 := Lib.hid hk1
  have HP1 := Lib.hid hp1
  have d8 := dig_c8 hp1
  have y8 := frozen_of_row w1 p 8 _ _ hp1
  have hsz1 : w1.heap.size = w.heap.size := by rw [hw1]; simp
  clear hk1 hp1 hw1 c8 c9 z8 z9
  go_region_law ((refine step_append_rd HT.out rfl rfl rfl HO1.out.drew rfl HB1.out.drew (bcs_one _) (by omega) (by unfold maxLen; omega) ?_); intro a3 c3 w3 h3 g3 f3; have hp3 := (g3.block p (lt_of_block HP1.out) (own_not HNE.out)).trans HP1.out; have e8 := dig_c8 hp3; have x8 := frozen_of_row w3 p 8 _ _ hp3; have HP3 := Lib.hid hp3; have H3 := Lib.hid h3; have G3 := Lib.hid g3; have F3 := Lib.hid f3; clear h3 g3 f3 hp3)
  clear d8 y8
  have hsl : ((r0.length : Int) + (b.length : Int)) < 64 := by omega
  have hne3 : p ∉ aF a3 := fun hh => by
    rcases F3.out p hh with h | h
    · exact HNE.out h
    · have h2 : p = w1.heap.size := h
      omega
  have hkv : Kp [p] w3 (w3.setCell ⟨p, 8, none⟩ (.slice a3 (r0.length + b.length) c3)) := (Kp.refl [p] w3).setCell (.inl (by simp)) _
  have HPS := Lib.hid (show (w3.setCell ⟨p, 8, none⟩ (.slice a3 (r0.length + b.length) c3)).heap[p]? = some (.cells (digA (stOf m) (.slice a3 (r0.length + b.length) c3) q2) 52 (0, 0)) from heap_setCell_same w3 p 8 _ _ _ HP3.out)
  have HOS := Lib.hid (row_kept H3.out hkv (fun x hx hh => hne3 (by simp at hh; rwa [hh] at hx)))
  have hk13 : Kp (p :: aF a) w w3 := ((HK1.out.mono (G := p :: aF a) (fun x hx _ => by simp at hx; simp [hx])).drew).pushed G3.out (fun x hx => .inl (by simp [hx]))
  have HKS := Lib.hid (hk13.trans hkv (fun x hx _ => by simp at hx; simp [hx]))
  have HNE3 := Lib.hid hne3
  clear hne3 hkv hk13
  have hst := st_short m b (by rw [← HR0.out]; exact hk)
  rw [← HR0.out] at hst
  by_cases hcap : cb = b.length
  · go_wp2
    refine bodyPost_ret (results_none rfl _ _ _) rfl ⟨rfl, p :: aF a3, ⟨a3, c3, ?_, ?_, rfl⟩, HKS.out, ?_⟩
    · rw [hst.1, hst.2, ← HCQ.out, List.length_append]; exact HPS.out
    · have h := HOS.out
      rw [← bcs_app] at h
      rw [hst.2, List.length_append]; exact h
    · intro x hx
      simp only [List.mem_cons] at hx
      rcases hx with rfl | hx
      · exact .inl (by simp)
      · rcases F3.out x hx with h | h
        · exact .inl (by simp [h])
        · right; have h2 : x = w1.heap.size := h; omega
  · go_wp2
    refine bodyPost_ret (results_none rfl _ _ _) rfl ⟨rfl, p :: aF a3, ⟨a3, c3, ?_, ?_, rfl⟩, HKS.out, ?_⟩
    · rw [hst.1, hst.2, ← HCQ.out, List.length_append]; exact HPS.out
    · have h := HOS.out
      rw [← bcs_app] at h
      rw [hst.2, List.length_append]; exact h
    · intro x hx
      simp only [List.mem_cons] at hx
      rcases hx with rfl | hx
      · exact .inl (by simp)
      · rcases F3.out x hx with h | h
        · exact .inl (by simp [h])
        · right; have h2 : x = w1.heap.size := h; omega

set_option maxRecDepth 100000 in
set_option maxHeartbeats 8000000 in
theorem write_full (p : Nat) (m : List UInt8) (F : List Nat) (ab : Option Addr) (cb : Nat) (b : List UInt8) (w : World) (h : DigAt w p m F) (hr0 : restOf m ≠ []) (hk : 64 ≤ (restOf m).length + b.length) (hb : Rd w ab b.length cb 1 (bcs b)) (hF : 0 < b.length → ∀ x ∈ aF ab, x ∉ F) (hL : Laid w) (hF2 : ∀ x ∈ F, 2 ≤ x) :
    Calls Tryd.prog 15 #[.pointer (some ⟨p, 0, none⟩), .slice ab b.length cb] w fun e w' => e = .returned (.tuple #[]) ∧ ∃ F', DigAt w' p (m ++ b) F' ∧ Adv F F' w w' := by
  have HL := Lib.hid hL
  clear hL
  obtain ⟨a, c, hp, hown, rfl⟩ := h
  obtain ⟨q, hq⟩ : ∃ q, q = cnt m.length := ⟨_, rfl⟩
  obtain ⟨q2, hq2⟩ : ∃ q2, q2 = cnt (m ++ b).length := ⟨_, rfl⟩
  have dq : IntKind.i64.wrap (q + (b.length : Int)) = q2 := by rw [hq, hq2, List.length_append]; exact cnt_add _ _
  rw [← hq] at hp
  have HCQ := Lib.hid hq2
  clear hq hq2
  obtain ⟨r0, hr0'⟩ : ∃ r0, r0 = restOf m := ⟨_, rfl⟩
  have hrl0 : r0.length < 64 := by rw [hr0', restOf_length]; omega
  have hpos : 0 < r0.length := by rw [hr0']; exact List.length_pos_iff.2 hr0
  rw [← hr0'] at hp hown hk
  have HR0 := Lib.hid hr0'
  have HF := Lib.hid hF
  have HF2 := Lib.hid hF2
  have HB := Lib.hid hb
  have hbmax := hb.max
  have hble := hb.le
  unfold maxLen at hbmax
  have c8 := dig_c8 hp
  have c9 := dig_c9 hp
  have z9 := frozen_of_row w p 9 _ _ hp
  have z8 := frozen_of_row w p 8 _ _ hp
  have HP := Lib.hid hp
  have HO := Lib.hid hown
  have hplt := lt_of_block hp
  have hne : p ∉ aF a := by
    have := own_ne hp hown (by decide)
    intro hh; cases a with
    | none => simp [aF] at hh
    | some ad => simp [aF] at hh; exact this (by simp [Value.ownBlock, hh])
  have HNE := Lib.hid hne
  obtain ⟨i0, T⟩ := Tryd.tbytes
  have HT := Lib.hid T
  clear hp hown hr0 hr0' hF hF2 hb hne T
  obtain ⟨kn, hkn⟩ : ∃ kn, r0.length + kn = 64 := ⟨64 - r0.length, by omega⟩
  have hmin1 : (64 : Int) - (r0.length : Int) = (kn : Int) := by omega
  have hmin3 : min (kn : Int) (b.length : Int) = (kn : Int) := by omega
  have hpos2 : (0 : Int) < (r0.length : Int) := by omega
  have hb0 : (0 : Int) ≤ (kn : Int) := by omega
  have hb1 : (kn : Int) ≤ (cb : Int) := by omega
  have hb2 : (kn : Int) ≤ (b.length : Int) := by omega
  have hknb : kn ≤ b.length := by omega
  have HKN := Lib.hid hkn
  have hknle : kn ≤ 64 := by omega
  clear hkn
  go_enter Tryd.func15, Tryd.ntmps15
  go_wp2
  obtain ⟨w1, hw1⟩ : ∃ w1, w1 = w.setCell ⟨p, 9, none⟩ (.int .i64 q2) := ⟨_, rfl⟩
  rw [← hw1]
  have hk1 : Kp [p] w w1 := by rw [hw1]; exact (Kp.refl _ _).setCell (.inl (by simp)) _
  have hp1 : w1.heap[p]? = some (.cells (digA (stOf m) (.slice a r0.length c) q2) 52 (0, 0)) := by
    rw [hw1, heap_setCell_same w p 9 _ _ _ HP.out]; rfl
  have HO1 := Lib.hid (row_kept HO.out hk1 (fun x hx hh => HNE.out (by simp at hh; rwa [hh] at hx)))
  have HB1 := Lib.hid (HB.out.kept2 hk1 (fun h0 x hx hh => HF.out (by rw [bcs_length] at h0; exact h0) x hx (by simp at hh; simp [hh])))
  have HK1 := Lib.hid hk1
  have HP1 := Lib.hid hp1
  have d8 := dig_c8 hp1
  have y8 := frozen_of_row w1 p 8 _ _ hp1
  have hsz1 : w1.heap.size = w.heap.size := by rw [hw1]; simp
  clear hk1 hp1 hw1 c8 c9 z8 z9
  have htk := HB1.out.take kn cb hknb (by omega) (Nat.le_refl _)
  rw [Nat.mul_one, bcs_take] at htk
  have HTK := Lib.hid htk
  have hdr := HB1.out.drop kn hknb
  rw [Nat.mul_one, bcs_drop] at hdr
  have HDR1 := Lib.hid hdr
  obtain ⟨b1, hb1'⟩ : ∃ b1, b1 = b.take kn := ⟨_, rfl⟩
  obtain ⟨b2, hb2'⟩ : ∃ b2, b2 = b.drop kn := ⟨_, rfl⟩
  have HBB := Lib.hid (show b1 ++ b2 = b by rw [hb1', hb2', List.take_append_drop])
  have hb1l : b1.length = kn := by rw [hb1', List.length_take]; omega
  have hb2l : b2.length = b.length - kn := by rw [hb2', List.length_drop]
  rw [← hb1'] at HTK
  rw [← hb2'] at HDR1
  have HB1L := Lib.hid hb1l
  have HB2L := Lib.hid hb2l
  clear htk hdr hb1' hb2' hb1l hb2l
  go_region_law ((refine step_append_rd HT.out rfl rfl rfl HO1.out.drew rfl HTK.out.drew (bcs_one _) (by omega) (by unfold maxLen; omega) ?_); intro a3 c3 w3 h3 g3 f3; have hp3 := (g3.block p (lt_of_block HP1.out) (own_not HNE.out)).trans HP1.out; have e8 := dig_c8 hp3; have x8 := frozen_of_row w3 p 8 _ _ hp3; have HP3 := Lib.hid hp3; have H3 := Lib.hid h3; have G3 := Lib.hid g3; have F3 := Lib.hid f3; clear h3 g3 f3 hp3)
  clear d8 y8
  have h3' := H3.out
  rw [HKN.out, ← bcs_app] at h3'
  rw [HKN.out]
  have hrl : (r0 ++ b1).length = 64 := by rw [List.length_append, HB1L.out, HKN.out]
  obtain ⟨g3, rfl⟩ : ∃ g, a3 = some ⟨g, 0, none⟩ := by
    rcases h3'.2 with ⟨hv, hn⟩ | ⟨g, cap, cur, hv, _⟩
    · cases hn
    · simp at hv; exact ⟨g, hv.1⟩
  have hne3 : p ∉ aF (some ⟨g3, 0, none⟩) := fun hh => by
    rcases F3.out p hh with h | h
    · exact HNE.out h
    · have h2 : p = w1.heap.size := h
      omega
  have hkv : Kp [p] w3 (w3.setCell ⟨p, 8, none⟩ (.slice (some ⟨g3, 0, none⟩) 64 c3)) := (Kp.refl [p] w3).setCell (.inl (by simp)) _
  have HPS := Lib.hid (show (w3.setCell ⟨p, 8, none⟩ (.slice (some ⟨g3, 0, none⟩) 64 c3)).heap[p]? = some (.cells (digA (stOf m) (.slice (some ⟨g3, 0, none⟩) 64 c3) q2) 52 (0, 0)) from heap_setCell_same w3 p 8 _ _ _ HP3.out)
  have HOS := Lib.hid (row_kept h3' hkv (fun x hx hh => hne3 (by simp at hh; rwa [hh] at hx)))
  have hk13 : Kp (p :: aF a) w w3 := ((HK1.out.mono (G := p :: aF a) (fun x hx _ => by simp at hx; simp [hx])).drew).pushed G3.out (fun x hx => .inl (by simp [hx]))
  have hks := hk13.trans hkv (fun x hx _ => by simp at hx; simp [hx])
  have HKS := Lib.hid hks
  have HP2 := Lib.hid (HF2.out p (by simp))
  have HLS := Lib.hid (HL.out.kept hks HF2.out)
  have HK1S := Lib.hid ((((Kp.refl (p :: aF a) w1).drew).pushed G3.out (fun x hx => .inl (by simp [hx]))).trans hkv (fun x hx _ => by simp at hx; simp [hx]))
  have HNE3 := Lib.hid hne3
  have HRL := Lib.hid hrl
  have HRDB := Lib.hid (own_rd HOS.out)
  have HQ0 := Lib.hid (show 0 < b2.length → ∀ x ∈ aF ab, x ≠ p ∧ x ∉ aF a from fun h0 x hx => ⟨fun hh => HF.out (by rw [HB2L.out] at h0; omega) x hx (by simp [hh]), fun hh => HF.out (by rw [HB2L.out] at h0; omega) x hx (by simp [hh])⟩)
  have hst := st_full m b1 (by rw [← HR0.out, HB1L.out, HKN.out]) (by rw [← HR0.out]; intro hh; rw [hh] at hpos; simp at hpos)
  rw [← HR0.out] at hst
  have HST := Lib.hid hst
  have c8s := dig_c8 HPS.out
  have HCUT := Lib.hid (aF_cut ab (cb = kn) kn)
  clear h3' hne3 hkv hk13 hks hrl hst e8
  by_cases hcap : cb = kn
  · subst hcap
    go_wp2_with fail
    refine (block_any p _ _ _ (some ⟨g3, 0, none⟩) c3 (r0 ++ b1) _ HPS.out HRDB.out HRL.out HNE3.out HLS.out).mono ?_
    rintro e w5 ⟨rfl, h5, k5⟩
    rw [← HST.out.1] at h5
    have d8 := dig_c8 h5
    have y8 := frozen_of_row w5 p 8 _ _ h5
    have H5 := Lib.hid h5
    have K5 := Lib.hid k5
    clear h5 k5 c8s
    go_wp2
    have hkv : Kp [p] w5 (w5.setCell ⟨p, 8, none⟩ (.slice (some ⟨g3, 0, none⟩) 0 c3)) := (Kp.refl [p] w5).setCell (.inl (by simp)) _
    have hps : (w5.setCell ⟨p, 8, none⟩ (.slice (some ⟨g3, 0, none⟩) 0 c3)).heap[p]? = some (.cells (digA (stOf (m ++ b1)) (.slice (some ⟨g3, 0, none⟩) 0 c3) q2) 52 (0, 0)) := by
      exact heap_setCell_same w5 p 8 _ _ _ H5.out
    obtain ⟨w6, hw6⟩ : ∃ w6, w6 = w5.setCell ⟨p, 8, none⟩ (.slice (some ⟨g3, 0, none⟩) 0 c3) := ⟨_, rfl⟩
    rw [← hw6] at hkv hps ⊢
    have hk46 := K5.out.trans hkv (fun x hx _ => hx)
    have HO1 := Lib.hid (row_zero (row_kept HOS.out hk46 (fun x hx hh => HNE3.out (by simp at hh; rwa [hh] at hx))))
    have hkw := HKS.out.trans hk46 (fun x hx _ => by simp at hx; simp [hx])
    have HKW := Lib.hid hkw
    have HLW := Lib.hid (HL.out.kept hkw HF2.out)
    have HP1 := Lib.hid hps
    have HPF := Lib.hid (show p ∈ p :: aF a by simp)
    have HAF := Lib.hid (show ∀ x ∈ aF (some ⟨g3, 0, none⟩), x ∈ p :: aF a ∨ w.heap.size ≤ x from fun x hx => by
      rcases F3.out x hx with h | h
      · exact .inl (by simp [h])
      · right; have h2 : x = w1.heap.size := h; omega)
    have HQ := Lib.hid (show 0 < b2.length → ∀ x ∈ aF ab, x ≠ p ∧ True from fun h0 x hx => ⟨(HQ0.out h0 x hx).1, trivial⟩)
    have hrd1 := (HDR1.out.kept2 HK1S.out (fun h0 x hx hh => by
      have hx1 := HCUT.out x hx
      have h00 : 0 < b2.length := by rw [bcs_length] at h0; exact h0
      simp only [List.mem_cons] at hh
      rcases hh with hh | hh
      · exact (HQ0.out h00 x hx1).1 hh
      · exact (HQ0.out h00 x hx1).2 hh)).kept2 hk46 (fun h0 x hx hh => by
      have hx1 := HCUT.out x hx
      have h00 : 0 < b2.length := by rw [bcs_length] at h0; exact h0
      exact (HQ0.out h00 x hx1).1 (by simpa using hh))
    simp only [if_true, Nat.sub_self] at hrd1
    rw [← HB2L.out] at hrd1
    have hz2 : b2.length = 0 := by rw [HB2L.out]; omega
    have HZ2 := Lib.hid hz2
    clear hz2
    have HB1 := Lib.hid hrd1
    have HCUT2 := Lib.hid (show ∀ x ∈ aF ab, x ∈ aF ab from fun x hx => hx)
    clear hkv hps hk46 hkw hw6 hrd1 d8 y8 x8
    go_loopw [1] (fun v wr => ∃ (j : Nat) (ab' : Option Addr) (cb' : Nat), 64 * j ≤ b2.length ∧ v = .slice ab' (b2.length - 64 * j) cb' ∧ Rd wr ab' (b2.length - 64 * j) cb' 1 (bcs (b2.drop (64 * j))) ∧ (∀ x ∈ aF ab', x ∈ aF ab) ∧ wr.heap[p]? = some (.cells (digA (stB (stOf (m ++ b1)) b2 j) (.slice (some ⟨g3, 0, none⟩) 0 c3) q2) 52 (0, 0)) ∧ Kp [p] w6 wr) (fun v _ => match v with | .slice _ n _ => n | _ => 0)
    case atStart => exact ⟨0, ab, 0, by omega, by rw [HZ2.out], HB1.out, fun x hx => HCUT2.out x hx, HP1.out, Kp.refl _ _⟩
    case round =>
      obtain ⟨j, ab', cb', hj, rfl, hrd, hsub, hp, hkp⟩ := hrel
      have HRD := Lib.hid hrd
      have HSUB := Lib.hid hsub
      have HPJ := Lib.hid hp
      have HKP := Lib.hid hkp
      have hle := hrd.le
      have hmx := hrd.max
      unfold maxLen at hmx
      clear hrd hsub hp hkp
      by_cases h64 : 64 ≤ b2.length - 64 * j
      · obtain ⟨n', hn'⟩ : ∃ n', n' = b2.length - 64 * j := ⟨_, rfl⟩
        rw [← hn'] at HRD h64 hle ⊢
        have HN := Lib.hid hn'
        have htk := HRD.out.take 64 cb' h64 (by omega) (Nat.le_refl _)
        rw [Nat.mul_one, bcs_take] at htk
        have hbl : ((b2.drop (64 * j)).take 64).length = 64 := by rw [List.length_take, List.length_drop, ← HN.out]; omega
        have hdr := HRD.out.drop 64 h64
        rw [Nat.mul_one, bcs_drop, List.drop_drop] at hdr
        have HTK := Lib.hid htk
        have HBL := Lib.hid hbl
        have HDR := Lib.hid hdr
        clear hn' htk hbl hdr
        by_cases hcap : cb' = 64
        · subst hcap
          rw [if_pos rfl] at HDR
          go_wp2_with fail
          refine (block_any p _ _ _ ab' 64 _ _ HPJ.out HTK.out HBL.out (fun hh => (HQ.out (by rw [HN.out] at h64; omega) _ (HSUB.out p hh)).1 rfl) ((HLW.out.kept HKP.out (by simp; exact HP2.out)))).mono ?_
          rintro e w5 ⟨rfl, h5, k5⟩
          have hrd5 := HDR.out.kept k5 (fun x hx hh => by
            have hx1 : x ∈ aF ab' := hx
            simp at hh
            exact (HQ.out (by rw [HN.out] at h64; omega) _ (HSUB.out _ hx1)).1 hh)
          have H5 := Lib.hid h5
          have K5 := Lib.hid k5
          have HRD5 := Lib.hid hrd5
          clear h5 k5 hrd5
          go_wp2
          go_roundw
          case rel =>
            have e1 : 64 * (j + 1) = 64 * j + 64 := by omega
            have e2 : b2.length - 64 * (j + 1) = n' - 64 := by rw [HN.out]; omega
            exact ⟨j + 1, _, _, by rw [HN.out] at h64; omega, by rw [e2, show n' - 64 = 0 by omega], by rw [e2, e1]; exact HRD5.out, fun x hx => HSUB.out x (hx), by rw [stB]; exact H5.out, HKP.out.trans K5.out (fun x hx _ => hx)⟩
          case measure => simp; omega
        · rw [if_neg hcap] at HDR
          go_wp2_with fail
          refine (block_any p _ _ _ ab' cb' _ _ HPJ.out HTK.out HBL.out (fun hh => (HQ.out (by rw [HN.out] at h64; omega) _ (HSUB.out p hh)).1 rfl) ((HLW.out.kept HKP.out (by simp; exact HP2.out)))).mono ?_
          rintro e w5 ⟨rfl, h5, k5⟩
          have hrd5 := HDR.out.kept k5 (fun x hx hh => by
            have hx1 : x ∈ aF ab' := by have := aF_cut ab' False 64 x (by rw [if_neg (by simp)]; exact hx); exact this
            simp at hh
            exact (HQ.out (by rw [HN.out] at h64; omega) _ (HSUB.out _ hx1)).1 hh)
          have H5 := Lib.hid h5
          have K5 := Lib.hid k5
          have HRD5 := Lib.hid hrd5
          clear h5 k5 hrd5
          go_wp2
          go_roundw
          case rel =>
            have e1 : 64 * (j + 1) = 64 * j + 64 := by omega
            have e2 : b2.length - 64 * (j + 1) = n' - 64 := by rw [HN.out]; omega
            exact ⟨j + 1, _, _, by rw [HN.out] at h64; omega, by rw [e2], by rw [e2, e1]; exact HRD5.out, fun x hx => HSUB.out x (by have := aF_cut ab' False 64 x (by rw [if_neg (by simp)]; exact hx); exact this), by rw [stB]; exact H5.out, HKP.out.trans K5.out (fun x hx _ => hx)⟩
          case measure => simp; omega
      · have hjq : j = b2.length / 64 := by omega
        subst hjq
        obtain ⟨r, hr⟩ : ∃ r, r = b2.drop (64 * (b2.length / 64)) := ⟨_, rfl⟩
        have hrl : r.length = b2.length - 64 * (b2.length / 64) := by rw [hr, List.length_drop]
        rw [← hr] at HRD
        rw [← hrl] at HRD ⊢
        have HR := Lib.hid hr
        have hrl2 : r.length < 64 := by omega
        have hsto := st_whole (m ++ b1) b2 HST.out.2
        rw [← hr] at hsto
        have HSTO := Lib.hid hsto
        have hO := row_kept HO1.out HKP.out (fun x hx hh => HNE3.out (by simp at hh; rwa [hh] at hx))
        have HO2 := Lib.hid hO
        have hp := HPJ.out
        have c8 : wr.cell? ⟨p, 8, none⟩ = some (.slice (some ⟨g3, 0, none⟩) 0 c3) := by rw [cell_of_row wr p 8 _ _ _ hp]; rfl
        have z8 := frozen_of_row wr p 8 _ _ hp
        obtain ⟨i0, T⟩ := Tryd.tbytes
        have HT := Lib.hid T
        have hrle : (0 : Int) ≤ (r.length : Int) := by omega
        clear h64 hj hr hrl hsto hO hp T
        go_wp2_with (at_builtin; go_loud (refine wpList_append_rd HT.out rfl rfl rfl HO2.out rfl HRD.out (bcs_one _) (by omega) (by unfold maxLen; omega) ?_; intro a7 c7 w7 h7 g7 f7; have hp7 := (g7.block p (lt_of_block HPJ.out) (own_not HNE3.out)).trans HPJ.out; have z7 := frozen_of_row w7 p 8 _ _ hp7; have c7' := dig_c8 hp7; have HP7 := Lib.hid hp7; have H7 := Lib.hid h7; have G7 := Lib.hid g7; have F7 := Lib.hid f7; clear h7 g7 f7 hp7))
        go_end0
        have h7 : w7.ownsRow 0 5 1 (.slice a7 r.length c7) r.length (bcs r) := by
          have h := H7.out
          simp only [Nat.zero_add] at h
          exact h
        have hne7 : p ∉ aF a7 := fun hh => by
          rcases F7.out p hh with h | h
          · exact HNE3.out h
          · have := lt_of_block HPJ.out; omega
        have hkv : Kp [p] w7 (w7.setCell ⟨p, 8, none⟩ (.slice a7 r.length c7)) := (Kp.refl [p] w7).setCell (.inl (by simp)) _
        have hmb : m ++ b = m ++ b1 ++ b2 := by rw [List.append_assoc, HBB.out]
        rw [hmb]
        refine ⟨rfl, p :: aF a7, ⟨a7, c7, ?_, ?_, rfl⟩, ?_, ?_⟩
        · refine (heap_setCell_same w7 p 8 _ _ _ HP7.out).trans ?_
          rw [HSTO.out.1, HSTO.out.2, ← hmb, ← HCQ.out]; rfl
        · rw [HSTO.out.2]
          exact row_kept h7 hkv (fun x hx hh => hne7 (by simp at hh; rwa [hh] at hx))
        · have k1 := HKW.out.trans HKP.out (fun x hx _ => by simp at hx; subst hx; exact HPF.out)
          exact (k1.pushed G7.out HAF.out).trans hkv (fun x hx _ => by simp at hx; subst hx; exact HPF.out)
        · intro x hx
          simp only [List.mem_cons] at hx
          rcases hx with rfl | hx
          · exact .inl HPF.out
          · rcases F7.out x hx with h | h
            · exact HAF.out x h
            · right; have := HKW.out.size; have := HKP.out.size; omega
  · have hcap' := hcap
    go_wp2_with fail
    refine (block_any p _ _ _ (some ⟨g3, 0, none⟩) c3 (r0 ++ b1) _ HPS.out HRDB.out HRL.out HNE3.out HLS.out).mono ?_
    rintro e w5 ⟨rfl, h5, k5⟩
    rw [← HST.out.1] at h5
    have d8 := dig_c8 h5
    have y8 := frozen_of_row w5 p 8 _ _ h5
    have H5 := Lib.hid h5
    have K5 := Lib.hid k5
    clear h5 k5 c8s
    go_wp2
    have hkv : Kp [p] w5 (w5.setCell ⟨p, 8, none⟩ (.slice (some ⟨g3, 0, none⟩) 0 c3)) := (Kp.refl [p] w5).setCell (.inl (by simp)) _
    have hps : (w5.setCell ⟨p, 8, none⟩ (.slice (some ⟨g3, 0, none⟩) 0 c3)).heap[p]? = some (.cells (digA (stOf (m ++ b1)) (.slice (some ⟨g3, 0, none⟩) 0 c3) q2) 52 (0, 0)) := by
      exact heap_setCell_same w5 p 8 _ _ _ H5.out
    obtain ⟨w6, hw6⟩ : ∃ w6, w6 = w5.setCell ⟨p, 8, none⟩ (.slice (some ⟨g3, 0, none⟩) 0 c3) := ⟨_, rfl⟩
    rw [← hw6] at hkv hps ⊢
    have hk46 := K5.out.trans hkv (fun x hx _ => hx)
    have HO1 := Lib.hid (row_zero (row_kept HOS.out hk46 (fun x hx hh => HNE3.out (by simp at hh; rwa [hh] at hx))))
    have hkw := HKS.out.trans hk46 (fun x hx _ => by simp at hx; simp [hx])
    have HKW := Lib.hid hkw
    have HLW := Lib.hid (HL.out.kept hkw HF2.out)
    have HP1 := Lib.hid hps
    have HPF := Lib.hid (show p ∈ p :: aF a by simp)
    have HAF := Lib.hid (show ∀ x ∈ aF (some ⟨g3, 0, none⟩), x ∈ p :: aF a ∨ w.heap.size ≤ x from fun x hx => by
      rcases F3.out x hx with h | h
      · exact .inl (by simp [h])
      · right; have h2 : x = w1.heap.size := h; omega)
    have HQ := Lib.hid (show 0 < b2.length → ∀ x ∈ aF ab, x ≠ p ∧ True from fun h0 x hx => ⟨(HQ0.out h0 x hx).1, trivial⟩)
    have hrd1 := (HDR1.out.kept2 HK1S.out (fun h0 x hx hh => by
      have hx1 := HCUT.out x hx
      have h00 : 0 < b2.length := by rw [bcs_length] at h0; exact h0
      simp only [List.mem_cons] at hh
      rcases hh with hh | hh
      · exact (HQ0.out h00 x hx1).1 hh
      · exact (HQ0.out h00 x hx1).2 hh)).kept2 hk46 (fun h0 x hx hh => by
      have hx1 := HCUT.out x hx
      have h00 : 0 < b2.length := by rw [bcs_length] at h0; exact h0
      exact (HQ0.out h00 x hx1).1 (by simpa using hh))
    rw [if_neg hcap] at hrd1
    rw [← HB2L.out] at hrd1 ⊢
    have HB1 := Lib.hid hrd1
    have HCUT2 := Lib.hid (show ∀ x ∈ aF (ab.map (fun x => x.add kn)), x ∈ aF ab from fun x hx => by have := aF_cut ab False kn x (by rw [if_neg (by simp)]; exact hx); exact this)
    clear hkv hps hk46 hkw hw6 hrd1 d8 y8 x8
    go_loopw [1] (fun v wr => ∃ (j : Nat) (ab' : Option Addr) (cb' : Nat), 64 * j ≤ b2.length ∧ v = .slice ab' (b2.length - 64 * j) cb' ∧ Rd wr ab' (b2.length - 64 * j) cb' 1 (bcs (b2.drop (64 * j))) ∧ (∀ x ∈ aF ab', x ∈ aF ab) ∧ wr.heap[p]? = some (.cells (digA (stB (stOf (m ++ b1)) b2 j) (.slice (some ⟨g3, 0, none⟩) 0 c3) q2) 52 (0, 0)) ∧ Kp [p] w6 wr) (fun v _ => match v with | .slice _ n _ => n | _ => 0)
    case atStart => exact ⟨0, _, _, by omega, rfl, HB1.out, fun x hx => HCUT2.out x hx, HP1.out, Kp.refl _ _⟩
    case round =>
      obtain ⟨j, ab', cb', hj, rfl, hrd, hsub, hp, hkp⟩ := hrel
      have HRD := Lib.hid hrd
      have HSUB := Lib.hid hsub
      have HPJ := Lib.hid hp
      have HKP := Lib.hid hkp
      have hle := hrd.le
      have hmx := hrd.max
      unfold maxLen at hmx
      clear hrd hsub hp hkp
      by_cases h64 : 64 ≤ b2.length - 64 * j
      · obtain ⟨n', hn'⟩ : ∃ n', n' = b2.length - 64 * j := ⟨_, rfl⟩
        rw [← hn'] at HRD h64 hle ⊢
        have HN := Lib.hid hn'
        have htk := HRD.out.take 64 cb' h64 (by omega) (Nat.le_refl _)
        rw [Nat.mul_one, bcs_take] at htk
        have hbl : ((b2.drop (64 * j)).take 64).length = 64 := by rw [List.length_take, List.length_drop, ← HN.out]; omega
        have hdr := HRD.out.drop 64 h64
        rw [Nat.mul_one, bcs_drop, List.drop_drop] at hdr
        have HTK := Lib.hid htk
        have HBL := Lib.hid hbl
        have HDR := Lib.hid hdr
        clear hn' htk hbl hdr
        by_cases hcap : cb' = 64
        · subst hcap
          rw [if_pos rfl] at HDR
          go_wp2_with fail
          refine (block_any p _ _ _ ab' 64 _ _ HPJ.out HTK.out HBL.out (fun hh => (HQ.out (by rw [HN.out] at h64; omega) _ (HSUB.out p hh)).1 rfl) ((HLW.out.kept HKP.out (by simp; exact HP2.out)))).mono ?_
          rintro e w5 ⟨rfl, h5, k5⟩
          have hrd5 := HDR.out.kept k5 (fun x hx hh => by
            have hx1 : x ∈ aF ab' := hx
            simp at hh
            exact (HQ.out (by rw [HN.out] at h64; omega) _ (HSUB.out _ hx1)).1 hh)
          have H5 := Lib.hid h5
          have K5 := Lib.hid k5
          have HRD5 := Lib.hid hrd5
          clear h5 k5 hrd5
          go_wp2
          go_roundw
          case rel =>
            have e1 : 64 * (j + 1) = 64 * j + 64 := by omega
            have e2 : b2.length - 64 * (j + 1) = n' - 64 := by rw [HN.out]; omega
            exact ⟨j + 1, _, _, by rw [HN.out] at h64; omega, by rw [e2, show n' - 64 = 0 by omega], by rw [e2, e1]; exact HRD5.out, fun x hx => HSUB.out x (hx), by rw [stB]; exact H5.out, HKP.out.trans K5.out (fun x hx _ => hx)⟩
          case measure => simp; omega
        · rw [if_neg hcap] at HDR
          go_wp2_with fail
          refine (block_any p _ _ _ ab' cb' _ _ HPJ.out HTK.out HBL.out (fun hh => (HQ.out (by rw [HN.out] at h64; omega) _ (HSUB.out p hh)).1 rfl) ((HLW.out.kept HKP.out (by simp; exact HP2.out)))).mono ?_
          rintro e w5 ⟨rfl, h5, k5⟩
          have hrd5 := HDR.out.kept k5 (fun x hx hh => by
            have hx1 : x ∈ aF ab' := by have := aF_cut ab' False 64 x (by rw [if_neg (by simp)]; exact hx); exact this
            simp at hh
            exact (HQ.out (by rw [HN.out] at h64; omega) _ (HSUB.out _ hx1)).1 hh)
          have H5 := Lib.hid h5
          have K5 := Lib.hid k5
          have HRD5 := Lib.hid hrd5
          clear h5 k5 hrd5
          go_wp2
          go_roundw
          case rel =>
            have e1 : 64 * (j + 1) = 64 * j + 64 := by omega
            have e2 : b2.length - 64 * (j + 1) = n' - 64 := by rw [HN.out]; omega
            exact ⟨j + 1, _, _, by rw [HN.out] at h64; omega, by rw [e2], by rw [e2, e1]; exact HRD5.out, fun x hx => HSUB.out x (by have := aF_cut ab' False 64 x (by rw [if_neg (by simp)]; exact hx); exact this), by rw [stB]; exact H5.out, HKP.out.trans K5.out (fun x hx _ => hx)⟩
          case measure => simp; omega
      · have hjq : j = b2.length / 64 := by omega
        subst hjq
        obtain ⟨r, hr⟩ : ∃ r, r = b2.drop (64 * (b2.length / 64)) := ⟨_, rfl⟩
        have hrl : r.length = b2.length - 64 * (b2.length / 64) := by rw [hr, List.length_drop]
        rw [← hr] at HRD
        rw [← hrl] at HRD ⊢
        have HR := Lib.hid hr
        have hrl2 : r.length < 64 := by omega
        have hsto := st_whole (m ++ b1) b2 HST.out.2
        rw [← hr] at hsto
        have HSTO := Lib.hid hsto
        have hO := row_kept HO1.out HKP.out (fun x hx hh => HNE3.out (by simp at hh; rwa [hh] at hx))
        have HO2 := Lib.hid hO
        have hp := HPJ.out
        have c8 : wr.cell? ⟨p, 8, none⟩ = some (.slice (some ⟨g3, 0, none⟩) 0 c3) := by rw [cell_of_row wr p 8 _ _ _ hp]; rfl
        have z8 := frozen_of_row wr p 8 _ _ hp
        obtain ⟨i0, T⟩ := Tryd.tbytes
        have HT := Lib.hid T
        have hrle : (0 : Int) ≤ (r.length : Int) := by omega
        clear h64 hj hr hrl hsto hO hp T
        go_wp2_with (at_builtin; go_loud (refine wpList_append_rd HT.out rfl rfl rfl HO2.out rfl HRD.out (bcs_one _) (by omega) (by unfold maxLen; omega) ?_; intro a7 c7 w7 h7 g7 f7; have hp7 := (g7.block p (lt_of_block HPJ.out) (own_not HNE3.out)).trans HPJ.out; have z7 := frozen_of_row w7 p 8 _ _ hp7; have c7' := dig_c8 hp7; have HP7 := Lib.hid hp7; have H7 := Lib.hid h7; have G7 := Lib.hid g7; have F7 := Lib.hid f7; clear h7 g7 f7 hp7))
        go_end0
        have h7 : w7.ownsRow 0 5 1 (.slice a7 r.length c7) r.length (bcs r) := by
          have h := H7.out
          simp only [Nat.zero_add] at h
          exact h
        have hne7 : p ∉ aF a7 := fun hh => by
          rcases F7.out p hh with h | h
          · exact HNE3.out h
          · have := lt_of_block HPJ.out; omega
        have hkv : Kp [p] w7 (w7.setCell ⟨p, 8, none⟩ (.slice a7 r.length c7)) := (Kp.refl [p] w7).setCell (.inl (by simp)) _
        have hmb : m ++ b = m ++ b1 ++ b2 := by rw [List.append_assoc, HBB.out]
        rw [hmb]
        refine ⟨rfl, p :: aF a7, ⟨a7, c7, ?_, ?_, rfl⟩, ?_, ?_⟩
        · refine (heap_setCell_same w7 p 8 _ _ _ HP7.out).trans ?_
          rw [HSTO.out.1, HSTO.out.2, ← hmb, ← HCQ.out]; rfl
        · rw [HSTO.out.2]
          exact row_kept h7 hkv (fun x hx hh => hne7 (by simp at hh; rwa [hh] at hx))
        · have k1 := HKW.out.trans HKP.out (fun x hx _ => by simp at hx; subst hx; exact HPF.out)
          exact (k1.pushed G7.out HAF.out).trans hkv (fun x hx _ => by simp at hx; subst hx; exact HPF.out)
        · intro x hx
          simp only [List.mem_cons] at hx
          rcases hx with rfl | hx
          · exact .inl HPF.out
          · rcases F7.out x hx with h | h
            · exact HAF.out x h
            · right; have := HKW.out.size; have := HKP.out.size; omega
end Go.Proofs.YtgfppmnpccaloaaDoor
