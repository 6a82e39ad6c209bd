/-
  Digest.Write: more bytes.
-/
import Derived.Test.YtgfppmnpccaloaaDoorSha3
namespace Go.Proofs.YtgfppmnpccaloaaDoor
open Go.RowKit

set_option maxRecDepth 100000 in
set_option maxHeartbeats 4000000 in
theorem write_whole (p : Nat) (m : List UInt8) (F : List Nat) (ab : Option Addr) (cb : Nat) (b : List UInt8) (w : World) (h : DigAt w p m F) (hr0 : restOf m = []) (hb : Rd w ab b.length cb 1 (bcs b)) (hF : 0 < b.length → ∀ x ∈ aF ab, x ∉ F) (hL : Laid w) (hF2 : ∀ x ∈ F, 2 ≤ x) :
    Calls Tryd.prog 15 #[.pointer (some ⟨p, 0, none⟩), .slice ab b.length cb] w fun e w' => e = .returned (.tuple #[]) ∧ ∃ F', DigAt w' p (m ++ b) F' ∧ Adv F F' w w' := by
  obtain ⟨a, c, hp, hown, rfl⟩ := h
  obtain ⟨q, hq⟩ : ∃ q, q = cnt m.length := ⟨_, rfl⟩
  obtain ⟨q2, hq2⟩ : ∃ q2, q2 = cnt (m ++ b).length := ⟨_, rfl⟩
  have dq : IntKind.i64.wrap (q + (b.length : Int)) = q2 := by rw [hq, hq2, List.length_append]; exact cnt_add _ _
  rw [← hq] at hp
  have HCQ := Lib.hid hq2
  clear hq hq2
  rw [hr0] at hp hown
  have HR0 := Lib.hid hr0
  have HF := Lib.hid hF
  have HF2 := Lib.hid hF2
  have HL := Lib.hid hL
  have HB := Lib.hid hb
  have c8 : w.cell? ⟨p, 8, none⟩ = some (.slice a 0 c) := by rw [cell_of_row w p 8 _ _ _ hp]; rfl
  have c9 : w.cell? ⟨p, 9, none⟩ = some (.int .i64 q) := by rw [cell_of_row w p 9 _ _ _ hp]; rfl
  have z9 := frozen_of_row w p 9 _ _ hp
  have z8 := frozen_of_row w p 8 _ _ hp
  have hcb := hb.le
  have hcb2 := hb.max
  unfold maxLen at hcb2
  have HP := Lib.hid hp
  have HO := Lib.hid hown
  have hplt := lt_of_block hp
  clear hp hown hr0 hF hF2 hL hb
  go_enter Tryd.func15, Tryd.ntmps15
  go_wp2
  obtain ⟨w1, hw1⟩ : ∃ w1, w1 = w.setCell ⟨p, 9, none⟩ (.int .i64 q2) := ⟨_, rfl⟩
  rw [← hw1]
  have hk1 : Kp [p] w w1 := by rw [hw1]; exact (Kp.refl _ _).setCell (.inl (by simp)) _
  have hp1 : w1.heap[p]? = some (.cells (digA (stOf m) (.slice a 0 c) q2) 52 (0, 0)) := by
    rw [hw1, heap_setCell_same w p 9 _ _ _ HP.out]; rfl
  have hne : p ∉ aF a := by
    have := own_ne HP.out HO.out (by decide)
    intro hh; cases a with
    | none => simp [aF] at hh
    | some ad => simp [aF] at hh; exact this (by simp [Value.ownBlock, hh])
  have hown1 := row_kept HO.out hk1 (fun x hx hh => hne (by simp at hh; rwa [hh] at hx))
  have hrd1 := HB.out.kept2 hk1 (fun h0 x hx hh => HF.out (by rw [bcs_length] at h0; exact h0) x hx (by simp at hh; simp [hh]))
  have HK1 := Lib.hid hk1
  have HP1 := Lib.hid hp1
  have HO1 := Lib.hid hown1
  have HB1 := Lib.hid hrd1
  have HNE := Lib.hid hne
  have HW1 := Lib.hid hw1
  clear hk1 hp1 hown1 hrd1 hw1 c8 c9 z8 z9 hne
  have HQ := Lib.hid (show 0 < b.length → ∀ x ∈ aF ab, x ≠ p ∧ x ∉ aF a from fun h0 x hx => ⟨fun hh => HF.out h0 x hx (by simp [hh]), fun hh => HF.out h0 x hx (by simp [hh])⟩)
  have HP2 := Lib.hid (HF2.out p (by simp))
  have HPF := Lib.hid (show p ∈ p :: aF a by simp)
  have HAF := Lib.hid (show ∀ x ∈ aF a, x ∈ p :: aF a ∨ w.heap.size ≤ x from fun x hx => .inl (by simp [hx]))
  have HKW := Lib.hid (HK1.out.mono (G := p :: aF a) (fun x hx _ => by simp at hx; simp [hx]))
  have HLW := Lib.hid (HL.out.kept HK1.out (by simp; exact HP2.out))
  go_loopw [1] (fun v wr => ∃ (j : Nat) (ab' : Option Addr) (cb' : Nat), 64 * j ≤ b.length ∧ v = .slice ab' (b.length - 64 * j) cb' ∧ Rd wr ab' (b.length - 64 * j) cb' 1 (bcs (b.drop (64 * j))) ∧ (∀ x ∈ aF ab', x ∈ aF ab) ∧ wr.heap[p]? = some (.cells (digA (stB (stOf m) b j) (.slice a 0 c) q2) 52 (0, 0)) ∧ Kp [p] w1 wr) (fun v _ => match v with | .slice _ n _ => n | _ => 0)
  case atStart => exact ⟨0, ab, cb, by omega, rfl, HB1.out, fun x hx => hx, HP1.out, Kp.refl _ _⟩
  case round =>
    obtain ⟨j, ab', cb', hj, rfl, hrd, hsub, hp, hkp⟩ := hrel
    have HRD := Lib.hid hrd
    have HSUB := Lib.hid hsub
    have HPJ := Lib.hid hp
    have HKP := Lib.hid hkp
    have hle := hrd.le
    have hmx := hrd.max
    unfold maxLen at hmx
    clear hrd hsub hp hkp
    by_cases h64 : 64 ≤ b.length - 64 * j
    · obtain ⟨n', hn'⟩ : ∃ n', n' = b.length - 64 * j := ⟨_, rfl⟩
      rw [← hn'] at HRD h64 hle ⊢
      have HN := Lib.hid hn'
      have htk := HRD.out.take 64 cb' h64 (by omega) (Nat.le_refl _)
      rw [Nat.mul_one, bcs_take] at htk
      have hbl : ((b.drop (64 * j)).take 64).length = 64 := by rw [List.length_take, List.length_drop, ← HN.out]; omega
      have hdr := HRD.out.drop 64 h64
      rw [Nat.mul_one, bcs_drop, List.drop_drop] at hdr
      have HTK := Lib.hid htk
      have HBL := Lib.hid hbl
      have HDR := Lib.hid hdr
      clear hn' htk hbl hdr
      by_cases hcap : cb' = 64
      · subst hcap
        rw [if_pos rfl] at HDR
        go_wp2_with fail
        refine (block_any p _ _ _ ab' 64 _ _ HPJ.out HTK.out HBL.out (fun hh => (HQ.out (by rw [HN.out] at h64; omega) _ (HSUB.out p hh)).1 rfl) ((HLW.out.kept HKP.out (by simp; exact HP2.out)))).mono ?_
        rintro e w5 ⟨rfl, h5, k5⟩
        have hrd5 := HDR.out.kept k5 (fun x hx hh => by
          have hx1 : x ∈ aF ab' := hx
          simp at hh
          exact (HQ.out (by rw [HN.out] at h64; omega) _ (HSUB.out _ hx1)).1 hh)
        have H5 := Lib.hid h5
        have K5 := Lib.hid k5
        have HRD5 := Lib.hid hrd5
        clear h5 k5 hrd5
        go_wp2
        go_roundw
        case rel =>
          have e1 : 64 * (j + 1) = 64 * j + 64 := by omega
          have e2 : b.length - 64 * (j + 1) = n' - 64 := by rw [HN.out]; omega
          exact ⟨j + 1, _, _, by rw [HN.out] at h64; omega, by rw [e2, show n' - 64 = 0 by omega], by rw [e2, e1]; exact HRD5.out, fun x hx => HSUB.out x (hx), by rw [stB]; exact H5.out, HKP.out.trans K5.out (fun x hx _ => hx)⟩
        case measure => simp; omega
      · rw [if_neg hcap] at HDR
        go_wp2_with fail
        refine (block_any p _ _ _ ab' cb' _ _ HPJ.out HTK.out HBL.out (fun hh => (HQ.out (by rw [HN.out] at h64; omega) _ (HSUB.out p hh)).1 rfl) ((HLW.out.kept HKP.out (by simp; exact HP2.out)))).mono ?_
        rintro e w5 ⟨rfl, h5, k5⟩
        have hrd5 := HDR.out.kept k5 (fun x hx hh => by
          have hx1 : x ∈ aF ab' := by have := aF_cut ab' False 64 x (by rw [if_neg (by simp)]; exact hx); exact this
          simp at hh
          exact (HQ.out (by rw [HN.out] at h64; omega) _ (HSUB.out _ hx1)).1 hh)
        have H5 := Lib.hid h5
        have K5 := Lib.hid k5
        have HRD5 := Lib.hid hrd5
        clear h5 k5 hrd5
        go_wp2
        go_roundw
        case rel =>
          have e1 : 64 * (j + 1) = 64 * j + 64 := by omega
          have e2 : b.length - 64 * (j + 1) = n' - 64 := by rw [HN.out]; omega
          exact ⟨j + 1, _, _, by rw [HN.out] at h64; omega, by rw [e2], by rw [e2, e1]; exact HRD5.out, fun x hx => HSUB.out x (by have := aF_cut ab' False 64 x (by rw [if_neg (by simp)]; exact hx); exact this), by rw [stB]; exact H5.out, HKP.out.trans K5.out (fun x hx _ => hx)⟩
        case measure => simp; omega
    · have hjq : j = b.length / 64 := by omega
      subst hjq
      obtain ⟨r, hr⟩ : ∃ r, r = b.drop (64 * (b.length / 64)) := ⟨_, rfl⟩
      have hrl : r.length = b.length - 64 * (b.length / 64) := by rw [hr, List.length_drop]
      rw [← hr] at HRD
      rw [← hrl] at HRD ⊢
      have HR := Lib.hid hr
      have hrl2 : r.length < 64 := by omega
      have hsto := st_whole m b HR0.out
      rw [← hr] at hsto
      have HSTO := Lib.hid hsto
      have hO := row_kept HO1.out HKP.out (fun x hx hh => HNE.out (by simp at hh; rwa [hh] at hx))
      have HO2 := Lib.hid hO
      have hp := HPJ.out
      have c8 : wr.cell? ⟨p, 8, none⟩ = some (.slice a 0 c) := by rw [cell_of_row wr p 8 _ _ _ hp]; rfl
      have z8 := frozen_of_row wr p 8 _ _ hp
      obtain ⟨i0, T⟩ := Tryd.tbytes
      have HT := Lib.hid T
      have hrle : (0 : Int) ≤ (r.length : Int) := by omega
      clear h64 hj hr hrl hsto hO hp T
      go_wp2_with (at_builtin; go_loud (refine wpList_append_rd HT.out rfl rfl rfl HO2.out rfl HRD.out (bcs_one _) (by omega) (by unfold maxLen; omega) ?_; intro a7 c7 w7 h7 g7 f7; have hp7 := (g7.block p (lt_of_block HPJ.out) (own_not HNE.out)).trans HPJ.out; have z7 := frozen_of_row w7 p 8 _ _ hp7; have c7' := dig_c8 hp7; have HP7 := Lib.hid hp7; have H7 := Lib.hid h7; have G7 := Lib.hid g7; have F7 := Lib.hid f7; clear h7 g7 f7 hp7))
      go_end0
      have h7 : w7.ownsRow 0 5 1 (.slice a7 r.length c7) r.length (bcs r) := by
        have h := H7.out
        simp only [Nat.zero_add] at h
        exact h
      have hne7 : p ∉ aF a7 := fun hh => by
        rcases F7.out p hh with h | h
        · exact HNE.out h
        · have := lt_of_block HPJ.out; omega
      have hkv : Kp [p] w7 (w7.setCell ⟨p, 8, none⟩ (.slice a7 r.length c7)) := (Kp.refl [p] w7).setCell (.inl (by simp)) _
      refine ⟨rfl, p :: aF a7, ⟨a7, c7, ?_, ?_, rfl⟩, ?_, ?_⟩
      · refine (heap_setCell_same w7 p 8 _ _ _ HP7.out).trans ?_
        rw [HSTO.out.1, HSTO.out.2, ← HCQ.out]; rfl
      · rw [HSTO.out.2]
        exact row_kept h7 hkv (fun x hx hh => hne7 (by simp at hh; rwa [hh] at hx))
      · have k1 := HKW.out.trans HKP.out (fun x hx _ => by simp at hx; subst hx; exact HPF.out)
        exact (k1.pushed G7.out HAF.out).trans hkv (fun x hx _ => by simp at hx; subst hx; exact HPF.out)
      · intro x hx
        simp only [List.mem_cons] at hx
        rcases hx with rfl | hx
        · exact .inl HPF.out
        · rcases F7.out x hx with h | h
          · exact HAF.out x h
          · right; have := HKW.out.size; have := HKP.out.size; omega
end Go.Proofs.YtgfppmnpccaloaaDoor

