/-
  merkle.Proof: the proof from a beginning.
-/
import Derived.Test.YtalnkhgonfcabaaDoorMerk4
namespace Go.Proofs.YtalnkhgonfcabaaDoor
open Go.RowKit

/-- The hashes beside a beginning's way, from the root down. -/
def besP : Nat → List Hsh → Nat → Bool → List Hsh
  | 0, _, _, _ => []
  | f + 1, l, m, wh => if l.length ≤ m then (if wh then [] else [rootH l]) else if m ≤ sp l.length then rootH (l.drop (sp l.length)) :: besP f (l.take (sp l.length)) m wh else rootH (l.take (sp l.length)) :: besP f (l.drop (sp l.length)) (m - sp l.length) false
theorem besP_more : ∀ (f g : Nat) (l : List Hsh) (m : Nat) (wh : Bool), l.length ≤ f → l.length ≤ g → l.length ≤ 9223372036854775808 → 1 ≤ m → m ≤ l.length → besP f l m wh = besP g l m wh
  | 0, _, _, _, _, h, _, _, _, _ => by omega
  | _, 0, _, _, _, _, h, _, _, _ => by omega
  | f + 1, g + 1, l, m, wh, hf, hg, hb, h1, h2 => by
    rw [besP, besP]
    split
    · rfl
    · obtain ⟨_, _, h3, h4, h5⟩ := sp_spec l.length (by omega) hb
      split
      · rw [besP_more f g (l.take (sp l.length)) _ _ (by rw [List.length_take]; omega) (by rw [List.length_take]; omega) (by rw [List.length_take]; omega) h1 (by rw [List.length_take]; omega)]
      · rw [besP_more f g (l.drop (sp l.length)) _ _ (by rw [List.length_drop]; omega) (by rw [List.length_drop]; omega) (by rw [List.length_drop]; omega) (by omega) (by rw [List.length_drop]; omega)]
def besQ (l : List Hsh) (m : Nat) (wh : Bool) : List Hsh := besP l.length l m wh
def proofH (l : List Hsh) (m : Nat) : List Hsh := (besQ l m true).reverse
theorem besQ_end (l : List Hsh) (m : Nat) (wh : Bool) (h : 1 ≤ l.length) (hm : l.length ≤ m) : besQ l m wh = if wh then [] else [rootH l] := by
  unfold besQ
  obtain ⟨f, hf⟩ : ∃ f, l.length = f + 1 := ⟨l.length - 1, by omega⟩
  rw [hf, besP, if_pos hm]
theorem besQ_left (l : List Hsh) (m : Nat) (wh : Bool) (h : 2 ≤ l.length) (hb : l.length ≤ 9223372036854775808) (h1 : 1 ≤ m) (hm : m < l.length) (hi : m ≤ sp l.length) : besQ l m wh = rootH (l.drop (sp l.length)) :: besQ (l.take (sp l.length)) m wh := by
  obtain ⟨_, _, h3, h4, h5⟩ := sp_spec l.length h hb
  obtain ⟨f, hf⟩ : ∃ f, l.length = f + 1 := ⟨l.length - 1, by omega⟩
  have e : besQ l m wh = rootH (l.drop (sp l.length)) :: besP f (l.take (sp l.length)) m wh := by
    unfold besQ
    rw [hf, besP, if_neg (by omega), if_pos (by rw [hf]; rw [hf] at hi; exact hi), hf]
  rw [e]; unfold besQ
  rw [besP_more f (l.take (sp l.length)).length _ _ _ (by rw [List.length_take]; omega) (Nat.le_refl _) (by rw [List.length_take]; omega) h1 (by rw [List.length_take]; omega)]
theorem besQ_right (l : List Hsh) (m : Nat) (wh : Bool) (h : 2 ≤ l.length) (hb : l.length ≤ 9223372036854775808) (hm : m < l.length) (hi : ¬ m ≤ sp l.length) : besQ l m wh = rootH (l.take (sp l.length)) :: besQ (l.drop (sp l.length)) (m - sp l.length) false := by
  obtain ⟨_, _, h3, h4, h5⟩ := sp_spec l.length h hb
  obtain ⟨f, hf⟩ : ∃ f, l.length = f + 1 := ⟨l.length - 1, by omega⟩
  have e : besQ l m wh = rootH (l.take (sp l.length)) :: besP f (l.drop (sp l.length)) (m - sp l.length) false := by
    unfold besQ
    rw [hf, besP, if_neg (by omega), if_neg (by rw [hf]; rw [hf] at hi; exact hi), hf]
  rw [e]; unfold besQ
  rw [besP_more f (l.drop (sp l.length)).length _ _ _ (by rw [List.length_drop]; omega) (Nat.le_refl _) (by rw [List.length_drop]; omega) (by omega) (by rw [List.length_drop]; omega)]

def Proof (l : List Hsh) (m : Nat) (w : World) (e : Ending) (w' : World) : Prop := ∃ v, e = .returned (.tuple #[v, .int .i64 0]) ∧ NewHs w v w' (proofH l m)

theorem proof_bad (l : List Hsh) (a : Option Addr) (c : Nat) (m : Int) (w : World) (hi : m < 0 ∨ (l.length : Int) < m) :
    Calls Tryd.prog 67 #[.slice a l.length c, .int .i64 m] w fun e w' => e = .returned (.tuple #[.slice none 0 0, .int .i64 11]) ∧ w = w' := by
  by_cases hn : m < 0
  · clear hi
    go_enter Tryd.func67, Tryd.ntmps67
    go_wp2
    go_ret2
    exact ⟨rfl, rfl⟩
  · have h2 : (l.length : Int) < m := by omega
    clear hi
    go_enter Tryd.func67, Tryd.ntmps67
    go_wp2
    go_ret2
    exact ⟨rfl, rfl⟩

/-- None, or all of it: no hash is needed. -/
theorem proof_ends (l : List Hsh) (a : Option Addr) (c : Nat) (m : Nat) (w : World) (hi : m = 0 ∨ m = l.length) :
    Calls Tryd.prog 67 #[.slice a l.length c, .int .i64 m] w fun e w' => e = .returned (.tuple #[.slice none 0 0, .int .i64 0]) ∧ w = w' := by
  by_cases hn : m = 0
  · subst hn
    clear hi
    have h0 : (0 : Int) ≤ (l.length : Int) := by omega
    go_enter Tryd.func67, Tryd.ntmps67
    go_wp2
    go_ret2
    exact ⟨rfl, rfl⟩
  · obtain rfl : m = l.length := by omega
    have h0 : ¬ (l.length : Int) = 0 := by omega
    have h1 : ((l.length : Int) == 0) = false := by rw [beq_eq_false_iff_ne]; omega
    clear hi hn
    go_enter Tryd.func67, Tryd.ntmps67
    go_wp2
    go_ret2
    exact ⟨rfl, rfl⟩

set_option maxHeartbeats 2000000 in
theorem proof_any (l : List Hsh) (a : Option Addr) (c : Nat) (i : Nat) (w : World) (hr : Rd w a l.length c 32 (hsc l)) (hll : l.length ≤ 65536) (hi0 : 1 ≤ i) (hi : i < l.length) (hL : Laid w) (h2 : 4 ≤ w.heap.size) :
    Calls Tryd.prog 67 #[.slice a l.length c, .int .i64 i] w fun e w' => Proof l i w e w' := by
  obtain ⟨i0, T⟩ := Tryd.thashes
  have HT := Lib.hid T
  have HR := Lib.hid hr
  have HL := Lib.hid hL
  have hi1 : ¬ (i : Int) < 0 := by omega
  have hi2 : (i : Int) < (l.length : Int) := by omega
  have hi3 : ((i : Int) == 0) = false := by simp; omega
  have hi4 : ((i : Int) == (l.length : Int)) = false := by simp; omega
  clear T hr hL
  go_enter Tryd.func67, Tryd.ntmps67
  go_wp2
  go_loopw [0, 1, 6, 7, 8] (fun v0 v1 v6 v7 _ wr => ∃ (l' : List Hsh) (wh : Bool) (i' : Nat) (a' : Option Addr) (c' : Nat) (bs : List Hsh) (ab : Option Addr) (cb : Nat), v0 = .slice a' l'.length c' ∧ Rd wr a' l'.length c' 32 (hsc l') ∧ v1 = .int .i64 i' ∧ v7 = .bool wh ∧ 1 ≤ i' ∧ i' ≤ l'.length ∧ l'.length + bs.length ≤ l.length ∧ v6 = .slice ab bs.length cb ∧ wr.ownsRow 0 33 32 (.slice ab bs.length cb) bs.length (hsc bs) ∧ (∀ x ∈ aF ab, w.heap.size ≤ x) ∧ besQ l i true = bs ++ besQ l' i' wh ∧ (0 < l'.length → ∀ x ∈ aF a', x < w.heap.size) ∧ Kp [] w wr) (fun v0 _ _ _ _ _ => match v0 with | .slice _ n _ => n | _ => 0)
  case atStart => exact ⟨l, true, i, a, c, [], none, 0, rfl, HR.out, rfl, rfl, hi0, by omega, by simp, rfl, World.ownsRow_nil _ _ _ _, by simp [aF], by simp, fun h0 => HR.out.lt (by rw [hsc_length]; omega), Kp.refl _ _⟩
  case round =>
    obtain ⟨l', wh, i', a', c', bs, ab, cb, rfl, hrd, rfl, rfl, hi1', hil, hbl, rfl, hown, hF, hbes, hlt, hkp⟩ := hrel
    have HRD := Lib.hid hrd
    have HO := Lib.hid hown
    have HF := Lib.hid hF
    have HBES := Lib.hid hbes
    have HLT := Lib.hid hlt
    have HKP := Lib.hid hkp
    have hcap := hrd.le
    have hmax := hrd.max
    unfold maxLen at hmax
    clear hown hF hbes hlt hkp
    by_cases h1 : i' < l'.length
    · obtain ⟨b, off, rfl, _, _⟩ := hrd.spot (by rw [hsc_length]; omega)
      obtain ⟨_, _, hs1, hs2, hs3⟩ := sp_spec l'.length (by omega) (by omega)
      have HSP := Lib.hid (fun W => split_any l'.length W (by omega) (by omega))
      have HBL := Lib.hid (besQ_left l' i' wh (by omega) (by omega) hi1' h1)
      have HBR := Lib.hid (besQ_right l' i' wh (by omega) (by omega) h1)
      obtain ⟨k, hk⟩ : ∃ k, k = sp l'.length := ⟨_, rfl⟩
      rw [← hk] at hs1 hs2 hs3 HSP HBL HBR
      have htk := hrd.take k c' (by omega) (by omega) (Nat.le_refl _)
      rw [hsc_take l' k (by omega)] at htk
      have hdr := hrd.drop k (by omega)
      rw [hsc_drop l' k (by omega), if_neg (by omega), Option.map_some, Addr.add_mid] at hdr
      have hltk : (l'.take k).length = k := by rw [List.length_take]; omega
      have hldk : (l'.drop k).length = l'.length - k := by rw [List.length_drop]
      have HTK := Lib.hid htk
      have HDR := Lib.hid hdr
      have HLTK := Lib.hid hltk
      have HLDK := Lib.hid hldk
      have hk0 : (0 : Int) ≤ (k : Int) := by omega
      have hkn : (k : Int) ≤ (l'.length : Int) := by omega
      have hnc : (l'.length : Int) ≤ (c' : Int) := by omega
      have hkc : (k : Int) ≤ (c' : Int) := by omega
      have hck : ¬ c' = k := by omega
      have hKP := HKP.out
      clear hrd htk hdr hltk hldk hk hi1 hi2 hi3 hi4
      by_cases hik : i' ≤ k
      · have hcall := root_any (l'.drop k) (some ⟨b, off + k * 32, none⟩) (c' - k) wr (by rw [HLDK.out]; exact HDR.out) (HL.out.below hKP) (Nat.le_trans h2 hKP.size)
        rw [HLDK.out] at hcall
        obtain ⟨x, hx⟩ : ∃ x, x = rootH (l'.drop k) := ⟨_, rfl⟩
        rw [← hx] at hcall
        have HX := Lib.hid hx
        have HC := Lib.hid hcall
        clear hcall hx hKP
        go_wp2_with fail
        refine (HSP.out _).mono ?_
        rintro e w' ⟨rfl, rfl⟩
        go_wp2_with fail
        refine HC.out.mono ?_
        rintro e w3 ⟨rfl, k3⟩
        have K3 := Lib.hid k3
        have HO3 := Lib.hid (own_kept HO.out k3 (by simp))
        clear k3
        go_wp2_with (first | (refine wpList_lit HT.out rfl rfl [hv x] rfl (by first | rfl | (simp [Act.eval]; done) | (simp [Act.eval]; rfl)) (hvs_size [x]) (by simp) ?_) | (at_builtin; refine wpList_append_rd HT.out rfl rfl rfl (HO3.out.alloc _) rfl (rd_alloc (m := 1) (by rw [flatV_one]; simp [hcs_length]) (by simp [maxLen])) (by rw [flatV_one]; exact hcs_one x) (by omega) (by simp [maxLen]; omega) ?_; intro a4 c4 w4 hown4 hgrow4 hF4; have HO4 := Lib.hid hown4; have HG4 := Lib.hid hgrow4; have HF4 := Lib.hid hF4; clear hown4 hgrow4 hF4))
        clear hk0 hkn hnc hkc hck
        go_wp2
        have KK4 : Kp (aF ab) w3 w4 := ((Kp.refl (aF ab) w3).alloc _).pushed HG4.out (fun y hy => .inl hy)
        have HSEP : ∀ y ∈ aF (some ⟨b, off, none⟩), y ∈ aF ab → False := fun y hy hh => by have := HLT.out (by omega) y hy; have := HF.out y hh; omega
        have HKK4 := Lib.hid KK4
        have HHSEP := Lib.hid HSEP
        clear KK4 HSEP
        go_roundw
        case rel =>
          refine ⟨l'.take k, wh, i', some ⟨b, off, none⟩, c', bs ++ [x], a4, c4, by rw [HLTK.out], by rw [HLTK.out]; exact (HTK.out.below K3.out).kept2 HKK4.out (fun h0 y hy hh => HHSEP.out y hy hh), rfl, rfl, hi1', by rw [HLTK.out]; omega, by rw [HLTK.out, List.length_append, List.length_singleton]; omega, by rw [List.length_append, List.length_singleton], ?_, fun y hy => ?_, ?_, fun _ => HLT.out (by omega), ?_⟩
          · have := HO4.out
            rw [flatV_one] at this
            rw [List.length_append, List.length_singleton, hsc_snoc]; exact this
          · rcases HF4.out y hy with h | h
            · exact HF.out y h
            · rw [h]; have := HKP.out.size; have := K3.out.size; simp; omega
          · rw [HBES.out, HBL.out hik, HX.out, List.append_assoc]; rfl
          · exact ((HKP.out.trans K3.out (by simp)).alloc _).pushed HG4.out (fun y hy => .inr (HF.out y hy))
        case measure => simp; omega
      · have hik2 : ¬ (i' : Int) ≤ (k : Int) := by omega
        have hcall := root_any (l'.take k) (some ⟨b, off, none⟩) c' wr (by rw [HLTK.out]; exact HTK.out) (HL.out.below hKP) (Nat.le_trans h2 hKP.size)
        rw [HLTK.out] at hcall
        obtain ⟨x, hx⟩ : ∃ x, x = rootH (l'.take k) := ⟨_, rfl⟩
        rw [← hx] at hcall
        have HX := Lib.hid hx
        have HC := Lib.hid hcall
        clear hcall hx hKP
        go_wp2_with fail
        refine (HSP.out _).mono ?_
        rintro e w' ⟨rfl, rfl⟩
        go_wp2_with fail
        refine HC.out.mono ?_
        rintro e w3 ⟨rfl, k3⟩
        have K3 := Lib.hid k3
        have HO3 := Lib.hid (own_kept HO.out k3 (by simp))
        clear k3
        go_wp2_with (first | (refine wpList_lit HT.out rfl rfl [hv x] rfl (by first | rfl | (simp [Act.eval]; done) | (simp [Act.eval]; rfl)) (hvs_size [x]) (by simp) ?_) | (at_builtin; refine wpList_append_rd HT.out rfl rfl rfl (HO3.out.alloc _) rfl (rd_alloc (m := 1) (by rw [flatV_one]; simp [hcs_length]) (by simp [maxLen])) (by rw [flatV_one]; exact hcs_one x) (by omega) (by simp [maxLen]; omega) ?_; intro a4 c4 w4 hown4 hgrow4 hF4; have HO4 := Lib.hid hown4; have HG4 := Lib.hid hgrow4; have HF4 := Lib.hid hF4; clear hown4 hgrow4 hF4))
        clear hk0 hkn hnc hkc hck
        go_wp2
        have KK4 : Kp (aF ab) w3 w4 := ((Kp.refl (aF ab) w3).alloc _).pushed HG4.out (fun y hy => .inl hy)
        have HSEP : ∀ y ∈ aF (some ⟨b, off, none⟩), y ∈ aF ab → False := fun y hy hh => by have := HLT.out (by omega) y hy; have := HF.out y hh; omega
        have HKK4 := Lib.hid KK4
        have HHSEP := Lib.hid HSEP
        clear KK4 HSEP
        go_roundw
        case rel =>
          refine ⟨l'.drop k, false, i' - k, some ⟨b, off + k * 32, none⟩, c' - k, bs ++ [x], a4, c4, by rw [HLDK.out], by rw [HLDK.out]; exact (HDR.out.below K3.out).kept2 HKK4.out (fun h0 y hy hh => HHSEP.out y hy hh), by go_num, rfl, by omega, by rw [HLDK.out]; omega, by rw [HLDK.out, List.length_append, List.length_singleton]; omega, by rw [List.length_append, List.length_singleton], ?_, fun y hy => ?_, ?_, fun _ => HLT.out (by omega), ?_⟩
          · have := HO4.out
            rw [flatV_one] at this
            rw [List.length_append, List.length_singleton, hsc_snoc]; exact this
          · rcases HF4.out y hy with h | h
            · exact HF.out y h
            · rw [h]; have := HKP.out.size; have := K3.out.size; simp; omega
          · rw [HBES.out, HBR.out hik, HX.out, List.append_assoc]; rfl
          · exact ((HKP.out.trans K3.out (by simp)).alloc _).pushed HG4.out (fun y hy => .inr (HF.out y hy))
        case measure => simp; omega
    · have hl1 : l'.length ≤ i' := by omega
      have hl2 : ¬ (i' : Int) < (l'.length : Int) := by omega
      have HB1 := Lib.hid (besQ_end l' i' wh (by omega) hl1)
      cases wh with
      | true =>
        have hrdb := own_rd HO.out
        have HRB := Lib.hid hrdb
        clear hrd hrdb
        go_wp2_with fail
        refine (turned_any bs ab cb _ HRB.out (by omega)).mono ?_
        rintro e w3 ⟨v, rfl, h3⟩
        have H3 := Lib.hid h3
        clear h3
        go_wp2
        go_ret2
        obtain ⟨a5, c5, rfl, h5, f5, k5⟩ := H3.out
        have hp : proofH l i = bs.reverse := by unfold proofH; rw [HBES.out, HB1.out]; simp
        refine ⟨_, rfl, a5, c5, by rw [hp]; rfl, by rw [hp]; exact h5, fun y hy => Nat.le_trans HKP.out.size (f5 y hy), HKP.out.trans k5 (by simp)⟩
      | false =>
        have hcall := root_any l' a' c' wr hrd (HL.out.below HKP.out) (Nat.le_trans h2 HKP.out.size)
        obtain ⟨x, hx⟩ : ∃ x, x = rootH l' := ⟨_, rfl⟩
        rw [← hx] at hcall
        have HX := Lib.hid hx
        have HC := Lib.hid hcall
        clear hcall hx hrd
        go_wp2_with fail
        refine HC.out.mono ?_
        rintro e w3 ⟨rfl, k3⟩
        have K3 := Lib.hid (HKP.out.trans k3 (by simp))
        have HO3 := Lib.hid (own_kept HO.out k3 (by simp))
        clear k3
        go_wp2_with (first | (refine wpList_lit HT.out rfl rfl [hv x] rfl (by first | rfl | (simp [Act.eval]; done) | (simp [Act.eval]; rfl)) (hvs_size [x]) (by simp) ?_) | (at_builtin; refine wpList_append_rd HT.out rfl rfl rfl (HO3.out.alloc _) rfl (rd_alloc (m := 1) (by rw [flatV_one]; simp [hcs_length]) (by simp [maxLen])) (by rw [flatV_one]; exact hcs_one x) (by omega) (by simp [maxLen]; omega) ?_; intro a4 c4 w4 hown4 hgrow4 hF4; have HO4 := Lib.hid hown4; have HG4 := Lib.hid hgrow4; have HF4 := Lib.hid hF4; clear hown4 hgrow4 hF4))
        have hrdb := own_rd HO4.out
        rw [flatV_one, ← hsc_snoc, show bs.length + 1 = (bs ++ [x]).length by simp] at hrdb
        have hK4 : Kp [] w w4 := (K3.out.alloc _).pushed HG4.out (fun y hy => .inr (HF.out y hy))
        have HRB := Lib.hid hrdb
        have K4 := Lib.hid hK4
        have hc4 := turned_any (bs ++ [x]) a4 c4 w4 HRB.out (by simp; omega)
        rw [show (bs ++ [x]).length = bs.length + 1 by simp] at hc4
        have HC4 := Lib.hid hc4
        clear hrdb hK4 hc4
        go_wp2_with fail
        refine HC4.out.mono ?_
        rintro e w5 ⟨v, rfl, h3⟩
        have H3 := Lib.hid h3
        clear h3
        go_wp2
        go_ret2
        obtain ⟨a5, c5, rfl, h5, f5, k5⟩ := H3.out
        have hp : proofH l i = (bs ++ [x]).reverse := by unfold proofH; rw [HBES.out, HB1.out, HX.out]; simp
        refine ⟨_, rfl, a5, c5, by rw [hp]; rfl, by rw [hp]; exact h5, fun y hy => Nat.le_trans K4.out.size (f5 y hy), K4.out.trans k5 (by simp)⟩
end Go.Proofs.YtalnkhgonfcabaaDoor
