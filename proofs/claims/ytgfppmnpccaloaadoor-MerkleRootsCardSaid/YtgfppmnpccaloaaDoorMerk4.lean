/-
  merkle.Path: the path of a leaf.
-/
import Derived.Test.YtgfppmnpccaloaaDoorMerk3
namespace Go.Proofs.YtgfppmnpccaloaaDoor
open Go.RowKit

/-- Hashes in memory made anew. -/
def NewHs (w : World) (v : Value) (w' : World) (l : List Hsh) : Prop :=
  ∃ a c, v = .slice a l.length c ∧ w'.ownsRow 0 24 32 (.slice a l.length c) l.length (hsc l) ∧ (∀ x ∈ aF a, w.heap.size ≤ x) ∧ Kp [] w w'

set_option maxHeartbeats 1000000 in
theorem turned_any (l : List Hsh) (a : Option Addr) (c : Nat) (w : World) (hr : Rd w a l.length c 32 (hsc l)) (hll : l.length ≤ 16777216) :
    Calls Tryd.prog 20 #[.slice a l.length c] w fun e w' => ∃ v, e = .returned v ∧ NewHs w v w' l.reverse := by
  obtain ⟨i0, T⟩ := Tryd.thashes
  have HT := Lib.hid T
  have HR := Lib.hid hr
  clear T hr
  go_enter Tryd.func20, Tryd.ntmps20
  go_wp2
  go_loopw [3, 4] (fun v i wr => ∃ (k : Nat) (a2 : Option Addr) (c2 : Nat), k ≤ l.length ∧ i = .int .i64 ((l.length : Int) - 1 - (k : Int)) ∧ v = .slice a2 k c2 ∧ wr.ownsRow 0 24 32 (.slice a2 k c2) k (hsc (l.reverse.take k)) ∧ (∀ x ∈ aF a2, w.heap.size ≤ x) ∧ Kp [] w wr) (fun _ i _ => (intOf i + 1).toNat)
  case atStart => exact ⟨0, none, 0, by omega, by go_num, rfl, World.ownsRow_nil _ _ _ _, by simp [aF], Kp.refl _ _⟩
  case round =>
    obtain ⟨k, a2, c2, hk, rfl, rfl, hown, hF, hkp⟩ := hrel
    have HO := Lib.hid hown
    have HF := Lib.hid hF
    have HKP := Lib.hid hkp
    clear hown hF
    by_cases hlt : k < l.length
    · obtain ⟨b, off, rfl, _, hcs⟩ := (HR.out.below hkp).spot (by rw [hsc_length]; omega)
      have hix : l.length - 1 - k < l.length := by omega
      have hra := rd_hash hcs (l.length - 1 - k) hix
      have hrv : l.reverse.take (k + 1) = l.reverse.take k ++ [l[l.length - 1 - k]'hix] := by
        rw [List.take_succ_eq_append_getElem (by simpa using hlt), List.getElem_reverse]
      obtain ⟨x, hx⟩ : ∃ x, x = l[l.length - 1 - k]'hix := ⟨_, rfl⟩
      rw [← hx] at hra hrv
      have HRA := Lib.hid hra
      have HRV := Lib.hid hrv
      have e1 : (0 : Int) ≤ (l.length : Int) - 1 - (k : Int) := by omega
      have e2 : (l.length : Int) - 1 - (k : Int) < (l.length : Int) := by omega
      have e3 : ((l.length : Int) - 1 - (k : Int)).toNat = l.length - 1 - k := by omega
      clear hkp hcs hra hrv hx hix
      go_wp2_with (first | (refine wpList_get_mid Tryd.thash rfl rfl HRA.out (hcs_length _) rfl ?_) | (refine wpList_lit HT.out rfl rfl [hv x] rfl (by first | rfl | (simp [Act.eval]; done) | (simp [Act.eval]; rfl)) (hvs_size [x]) (by simp) ?_) | (at_builtin; refine wpList_append_rd HT.out rfl rfl rfl (HO.out.alloc _) rfl (rd_alloc (m := 1) (by rw [flatV_one]; simp [hcs_length]) (by simp [maxLen])) (by rw [flatV_one]; exact hcs_one x) (by omega) (by simp [maxLen]; omega) ?_; intro a' c' w3 hown hgrow hF3; have HO3 := Lib.hid hown; have HG3 := Lib.hid hgrow; have HF3 := Lib.hid hF3; clear hown hgrow hF3))
      clear e1 e2 e3
      go_roundw
      case rel =>
        refine ⟨k + 1, a', c', by omega, by congr 1; omega, rfl, ?_, fun y hy => ?_, (HKP.out.alloc _).pushed HG3.out (fun y hy => .inr (HF.out y hy))⟩
        · rw [HRV.out, hsc_snoc]
          have := HO3.out
          rw [flatV_one] at this
          exact this
        · rcases HF3.out y hy with h | h
          · exact HF.out y h
          · rw [h]; have := HKP.out.size; simp; omega
      case measure => simp [intOf]; omega
    · obtain rfl : k = l.length := by omega
      clear hkp
      have hneg : (l.length : Int) - 1 - (l.length : Int) = -1 := by omega
      have HL := Lib.hid (show l.reverse.take l.length = l.reverse from List.take_of_length_le (by simp))
      go_wp2
      go_ret
      have h := HO.out
      rw [HL.out] at h
      exact ⟨_, rfl, a2, c2, by rw [List.length_reverse]; rfl, by rw [List.length_reverse]; exact h, HF.out, HKP.out⟩

/-- The hashes beside a leaf's way, from the root down. -/
def besF : Nat → List Hsh → Nat → List Hsh
  | 0, _, _ => []
  | f + 1, l, i => if l.length ≤ 1 then [] else if i < sp l.length then rootH (l.drop (sp l.length)) :: besF f (l.take (sp l.length)) i else rootH (l.take (sp l.length)) :: besF f (l.drop (sp l.length)) (i - sp l.length)
theorem besF_more : ∀ (f g : Nat) (l : List Hsh) (i : Nat), l.length ≤ f → l.length ≤ g → l.length ≤ 9223372036854775808 → besF f l i = besF g l i
  | 0, 0, _, _, _, _, _ => rfl
  | 0, g + 1, l, i, h, _, _ => by rw [besF, besF, if_pos (by omega)]
  | f + 1, 0, l, i, _, h, _ => by rw [besF, besF, if_pos (by omega)]
  | f + 1, g + 1, l, i, hf, hg, hb => by
    rw [besF, besF]
    split
    · rfl
    · obtain ⟨_, _, h3, h4, h5⟩ := sp_spec l.length (by omega) hb
      rw [besF_more f g (l.take (sp l.length)) _ (by rw [List.length_take]; omega) (by rw [List.length_take]; omega) (by rw [List.length_take]; omega), besF_more f g (l.drop (sp l.length)) _ (by rw [List.length_drop]; omega) (by rw [List.length_drop]; omega) (by rw [List.length_drop]; omega)]
def besH (l : List Hsh) (i : Nat) : List Hsh := besF l.length l i
def pathH (l : List Hsh) (i : Nat) : List Hsh := (besH l i).reverse
theorem besH_one (l : List Hsh) (i : Nat) (h : l.length ≤ 1) : besH l i = [] := by
  unfold besH
  cases hl : l.length with
  | zero => rfl
  | succ n => rw [besF, if_pos h]
theorem besH_left (l : List Hsh) (i : Nat) (h : 2 ≤ l.length) (hb : l.length ≤ 9223372036854775808) (hi : i < sp l.length) : besH l i = rootH (l.drop (sp l.length)) :: besH (l.take (sp l.length)) i := by
  obtain ⟨_, _, h3, h4, h5⟩ := sp_spec l.length h hb
  obtain ⟨f, hf⟩ : ∃ f, l.length = f + 1 := ⟨l.length - 1, by omega⟩
  have e : besH l i = rootH (l.drop (sp l.length)) :: besF f (l.take (sp l.length)) i := by
    unfold besH
    rw [hf, besF, if_neg (by omega), if_pos (by rw [hf]; rw [hf] at hi; exact hi), hf]
  rw [e]; unfold besH
  rw [besF_more f (l.take (sp l.length)).length _ _ (by rw [List.length_take]; omega) (Nat.le_refl _) (by rw [List.length_take]; omega)]
theorem besH_right (l : List Hsh) (i : Nat) (h : 2 ≤ l.length) (hb : l.length ≤ 9223372036854775808) (hi : ¬ i < sp l.length) : besH l i = rootH (l.take (sp l.length)) :: besH (l.drop (sp l.length)) (i - sp l.length) := by
  obtain ⟨_, _, h3, h4, h5⟩ := sp_spec l.length h hb
  obtain ⟨f, hf⟩ : ∃ f, l.length = f + 1 := ⟨l.length - 1, by omega⟩
  have e : besH l i = rootH (l.take (sp l.length)) :: besF f (l.drop (sp l.length)) (i - sp l.length) := by
    unfold besH
    rw [hf, besF, if_neg (by omega), if_neg (by rw [hf]; rw [hf] at hi; exact hi), hf]
  rw [e]; unfold besH
  rw [besF_more f (l.drop (sp l.length)).length _ _ (by rw [List.length_drop]; omega) (Nat.le_refl _) (by rw [List.length_drop]; omega)]

def Path (l : List Hsh) (i : Nat) (w : World) (e : Ending) (w' : World) : Prop := ∃ v, e = .returned (.tuple #[v, .int .i64 0]) ∧ NewHs w v w' (pathH l i)

theorem path_bad (l : List Hsh) (a : Option Addr) (c : Nat) (i : Int) (w : World) (hi : i < 0 ∨ (l.length : Int) ≤ i) :
    Calls Tryd.prog 12 #[.slice a l.length c, .int .i64 i] w fun e w' => e = .returned (.tuple #[.slice none 0 0, .int .i64 11]) ∧ w = w' := by
  by_cases hn : i < 0
  · clear hi
    go_enter Tryd.func12, Tryd.ntmps12
    go_wp2
    go_ret2
    exact ⟨rfl, rfl⟩
  · have h2 : (l.length : Int) ≤ i := by omega
    clear hi
    go_enter Tryd.func12, Tryd.ntmps12
    go_wp2
    go_ret2
    exact ⟨rfl, rfl⟩

set_option maxHeartbeats 2000000 in
theorem path_any (l : List Hsh) (a : Option Addr) (c : Nat) (i : Nat) (w : World) (hr : Rd w a l.length c 32 (hsc l)) (hll : l.length ≤ 65536) (hi : i < l.length) (hL : Laid w) (h2 : 2 ≤ w.heap.size) :
    Calls Tryd.prog 12 #[.slice a l.length c, .int .i64 i] w fun e w' => Path l i w e w' := by
  obtain ⟨i0, T⟩ := Tryd.thashes
  have HT := Lib.hid T
  have HR := Lib.hid hr
  have HL := Lib.hid hL
  have hi1 : ¬ (i : Int) < 0 := by omega
  have hi2 : (i : Int) < (l.length : Int) := by omega
  clear T hr hL
  go_enter Tryd.func12, Tryd.ntmps12
  go_wp2
  go_loopw [0, 1, 6] (fun v0 v1 v6 wr => ∃ (l' : List Hsh) (i' : Nat) (a' : Option Addr) (c' : Nat) (bs : List Hsh) (ab : Option Addr) (cb : Nat), v0 = .slice a' l'.length c' ∧ Rd wr a' l'.length c' 32 (hsc l') ∧ v1 = .int .i64 i' ∧ i' < l'.length ∧ l'.length + bs.length ≤ l.length ∧ v6 = .slice ab bs.length cb ∧ wr.ownsRow 0 24 32 (.slice ab bs.length cb) bs.length (hsc bs) ∧ (∀ x ∈ aF ab, w.heap.size ≤ x) ∧ besH l i = bs ++ besH l' i' ∧ (0 < l'.length → ∀ x ∈ aF a', x < w.heap.size) ∧ Kp [] w wr) (fun v0 _ _ _ => match v0 with | .slice _ n _ => n | _ => 0)
  case atStart => exact ⟨l, i, a, c, [], none, 0, rfl, HR.out, rfl, hi, by simp, rfl, World.ownsRow_nil _ _ _ _, by simp [aF], by simp, fun h0 => HR.out.lt (by rw [hsc_length]; omega), Kp.refl _ _⟩
  case round =>
    obtain ⟨l', i', a', c', bs, ab, cb, rfl, hrd, rfl, hil, hbl, rfl, hown, hF, hbes, hlt, hkp⟩ := hrel
    have HRD := Lib.hid hrd
    have HO := Lib.hid hown
    have HF := Lib.hid hF
    have HBES := Lib.hid hbes
    have HLT := Lib.hid hlt
    have HKP := Lib.hid hkp
    have hcap := hrd.le
    have hmax := hrd.max
    unfold maxLen at hmax
    clear hown hF hbes hlt hkp
    by_cases h1 : 1 < l'.length
    · obtain ⟨b, off, rfl, _, _⟩ := hrd.spot (by rw [hsc_length]; omega)
      obtain ⟨_, _, hs1, hs2, hs3⟩ := sp_spec l'.length (by omega) (by omega)
      have HSP := Lib.hid (fun W => split_any l'.length W (by omega) (by omega))
      have HBL := Lib.hid (besH_left l' i' (by omega) (by omega))
      have HBR := Lib.hid (besH_right l' i' (by omega) (by omega))
      obtain ⟨k, hk⟩ : ∃ k, k = sp l'.length := ⟨_, rfl⟩
      rw [← hk] at hs1 hs2 hs3 HSP HBL HBR
      have htk := hrd.take k c' (by omega) (by omega) (Nat.le_refl _)
      rw [hsc_take l' k (by omega)] at htk
      have hdr := hrd.drop k (by omega)
      rw [hsc_drop l' k (by omega), if_neg (by omega), Option.map_some, Addr.add_mid] at hdr
      have hltk : (l'.take k).length = k := by rw [List.length_take]; omega
      have hldk : (l'.drop k).length = l'.length - k := by rw [List.length_drop]
      have HTK := Lib.hid htk
      have HDR := Lib.hid hdr
      have HLTK := Lib.hid hltk
      have HLDK := Lib.hid hldk
      have hk0 : (0 : Int) ≤ (k : Int) := by omega
      have hkn : (k : Int) ≤ (l'.length : Int) := by omega
      have hnc : (l'.length : Int) ≤ (c' : Int) := by omega
      have hkc : (k : Int) ≤ (c' : Int) := by omega
      have hck : ¬ c' = k := by omega
      have hKP := HKP.out
      clear hrd htk hdr hltk hldk hk hi1 hi2
      by_cases hik : i' < k
      · have hcall := root_any (l'.drop k) (some ⟨b, off + k * 32, none⟩) (c' - k) wr (by rw [HLDK.out]; exact HDR.out) (HL.out.below hKP) (Nat.le_trans h2 hKP.size)
        rw [HLDK.out] at hcall
        obtain ⟨x, hx⟩ : ∃ x, x = rootH (l'.drop k) := ⟨_, rfl⟩
        rw [← hx] at hcall
        have HX := Lib.hid hx
        have HC := Lib.hid hcall
        clear hcall hx hKP
        go_wp2_with fail
        refine (HSP.out _).mono ?_
        rintro e w' ⟨rfl, rfl⟩
        go_wp2_with fail
        refine HC.out.mono ?_
        rintro e w3 ⟨rfl, k3⟩
        have K3 := Lib.hid k3
        have HO3 := Lib.hid (own_kept HO.out k3 (by simp))
        clear k3
        go_wp2_with (first | (refine wpList_lit HT.out rfl rfl [hv x] rfl (by first | rfl | (simp [Act.eval]; done) | (simp [Act.eval]; rfl)) (hvs_size [x]) (by simp) ?_) | (at_builtin; refine wpList_append_rd HT.out rfl rfl rfl (HO3.out.alloc _) rfl (rd_alloc (m := 1) (by rw [flatV_one]; simp [hcs_length]) (by simp [maxLen])) (by rw [flatV_one]; exact hcs_one x) (by omega) (by simp [maxLen]; omega) ?_; intro a4 c4 w4 hown4 hgrow4 hF4; have HO4 := Lib.hid hown4; have HG4 := Lib.hid hgrow4; have HF4 := Lib.hid hF4; clear hown4 hgrow4 hF4))
        clear hk0 hkn hnc hkc hck
        go_wp2
        have KK4 : Kp (aF ab) w3 w4 := ((Kp.refl (aF ab) w3).alloc _).pushed HG4.out (fun y hy => .inl hy)
        have HSEP : ∀ y ∈ aF (some ⟨b, off, none⟩), y ∈ aF ab → False := fun y hy hh => by have := HLT.out (by omega) y hy; have := HF.out y hh; omega
        have HKK4 := Lib.hid KK4
        have HHSEP := Lib.hid HSEP
        clear KK4 HSEP
        go_roundw
        case rel =>
          refine ⟨l'.take k, i', some ⟨b, off, none⟩, c', bs ++ [x], a4, c4, by rw [HLTK.out], by rw [HLTK.out]; exact (HTK.out.below K3.out).kept2 HKK4.out (fun h0 y hy hh => HHSEP.out y hy hh), rfl, by rw [HLTK.out]; omega, by rw [HLTK.out, List.length_append, List.length_singleton]; omega, by rw [List.length_append, List.length_singleton], ?_, fun y hy => ?_, ?_, fun _ => HLT.out (by omega), ?_⟩
          · have := HO4.out
            rw [flatV_one] at this
            rw [List.length_append, List.length_singleton, hsc_snoc]; exact this
          · rcases HF4.out y hy with h | h
            · exact HF.out y h
            · rw [h]; have := HKP.out.size; have := K3.out.size; simp; omega
          · rw [HBES.out, HBL.out hik, HX.out, List.append_assoc]; rfl
          · exact ((HKP.out.trans K3.out (by simp)).alloc _).pushed HG4.out (fun y hy => .inr (HF.out y hy))
        case measure => simp; omega
      · have hik2 : (k : Int) ≤ (i' : Int) := by omega
        have hcall := root_any (l'.take k) (some ⟨b, off, none⟩) c' wr (by rw [HLTK.out]; exact HTK.out) (HL.out.below hKP) (Nat.le_trans h2 hKP.size)
        rw [HLTK.out] at hcall
        obtain ⟨x, hx⟩ : ∃ x, x = rootH (l'.take k) := ⟨_, rfl⟩
        rw [← hx] at hcall
        have HX := Lib.hid hx
        have HC := Lib.hid hcall
        clear hcall hx hKP
        go_wp2_with fail
        refine (HSP.out _).mono ?_
        rintro e w' ⟨rfl, rfl⟩
        go_wp2_with fail
        refine HC.out.mono ?_
        rintro e w3 ⟨rfl, k3⟩
        have K3 := Lib.hid k3
        have HO3 := Lib.hid (own_kept HO.out k3 (by simp))
        clear k3
        go_wp2_with (first | (refine wpList_lit HT.out rfl rfl [hv x] rfl (by first | rfl | (simp [Act.eval]; done) | (simp [Act.eval]; rfl)) (hvs_size [x]) (by simp) ?_) | (at_builtin; refine wpList_append_rd HT.out rfl rfl rfl (HO3.out.alloc _) rfl (rd_alloc (m := 1) (by rw [flatV_one]; simp [hcs_length]) (by simp [maxLen])) (by rw [flatV_one]; exact hcs_one x) (by omega) (by simp [maxLen]; omega) ?_; intro a4 c4 w4 hown4 hgrow4 hF4; have HO4 := Lib.hid hown4; have HG4 := Lib.hid hgrow4; have HF4 := Lib.hid hF4; clear hown4 hgrow4 hF4))
        clear hk0 hkn hnc hkc hck
        go_wp2
        have KK4 : Kp (aF ab) w3 w4 := ((Kp.refl (aF ab) w3).alloc _).pushed HG4.out (fun y hy => .inl hy)
        have HSEP : ∀ y ∈ aF (some ⟨b, off, none⟩), y ∈ aF ab → False := fun y hy hh => by have := HLT.out (by omega) y hy; have := HF.out y hh; omega
        have HKK4 := Lib.hid KK4
        have HHSEP := Lib.hid HSEP
        clear KK4 HSEP
        go_roundw
        case rel =>
          refine ⟨l'.drop k, i' - k, some ⟨b, off + k * 32, none⟩, c' - k, bs ++ [x], a4, c4, by rw [HLDK.out], by rw [HLDK.out]; exact (HDR.out.below K3.out).kept2 HKK4.out (fun h0 y hy hh => HHSEP.out y hy hh), by go_num, by rw [HLDK.out]; omega, by rw [HLDK.out, List.length_append, List.length_singleton]; omega, by rw [List.length_append, List.length_singleton], ?_, fun y hy => ?_, ?_, fun _ => HLT.out (by omega), ?_⟩
          · have := HO4.out
            rw [flatV_one] at this
            rw [List.length_append, List.length_singleton, hsc_snoc]; exact this
          · rcases HF4.out y hy with h | h
            · exact HF.out y h
            · rw [h]; have := HKP.out.size; have := K3.out.size; simp; omega
          · rw [HBES.out, HBR.out hik, HX.out, List.append_assoc]; rfl
          · exact ((HKP.out.trans K3.out (by simp)).alloc _).pushed HG4.out (fun y hy => .inr (HF.out y hy))
        case measure => simp; omega
    · have hl1 : l'.length ≤ 1 := by omega
      have HB1 := Lib.hid (besH_one l' i' hl1)
      have hrdb := own_rd HO.out
      have HRB := Lib.hid hrdb
      clear hrd hrdb
      go_wp2_with fail
      refine (turned_any bs ab cb _ HRB.out (by omega)).mono ?_
      rintro e w3 ⟨v, rfl, h3⟩
      have H3 := Lib.hid h3
      clear h3
      go_wp2
      go_ret2
      obtain ⟨a5, c5, rfl, h5, f5, k5⟩ := H3.out
      have hp : pathH l i = bs.reverse := by unfold pathH; rw [HBES.out, HB1.out, List.append_nil]
      refine ⟨_, rfl, a5, c5, by rw [hp]; rfl, by rw [hp]; exact h5, fun y hy => Nat.le_trans HKP.out.size (f5 y hy), HKP.out.trans k5 (by simp)⟩
end Go.Proofs.YtgfppmnpccaloaaDoor
