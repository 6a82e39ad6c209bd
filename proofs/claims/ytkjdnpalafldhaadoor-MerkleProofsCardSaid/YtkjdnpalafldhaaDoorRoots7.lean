/-
  law07's roots, of some places.
-/
import Derived.Test.YtkjdnpalafldhaaDoorRoot7b
import Derived.Test.YtkjdnpalafldhaaDoorRefe
namespace Go.Proofs.YtkjdnpalafldhaaDoor
open Go.RowKit

theorem Tryd.tpair : ArT Tryd.prog 77 2 := ⟨⟨_, _, Tryd.underlying77⟩, by kernel_rfl⟩
def cutH (l : List Hsh) (p : Nat × Nat) : List Hsh := (l.drop p.1).take (p.2 - p.1)
def rootsH (l : List Hsh) (ps : List (Nat × Nat)) : List Hsh := ps.map fun p => rootH (cutH l p)
theorem cutH_length (l : List Hsh) (p : Nat × Nat) (h : p.2 ≤ l.length) : (cutH l p).length = p.2 - p.1 := by unfold cutH; rw [List.length_take, List.length_drop]; omega
theorem rd_pair {w : World} {b off : Nat} {l : List (Nat × Nat)} (hc : ∀ j u, (prs l)[j]? = some u → w.cell? ⟨b, off + j, none⟩ = some u) (k : Nat) (hk : k < l.length) : w.rangeAt b (off + k * 2) (pairC l[k]) := by
  intro j v hj
  rw [Nat.add_assoc]
  exact hc _ _ (prs_at l k hk j v hj)
/-- A part of the hashes, read. -/
theorem rd_cutH {w : World} {b off : Nat} {l : List Hsh} {c : Nat} (h : Rd w (some ⟨b, off, none⟩) l.length c 32 (hsc l)) (p : Nat × Nat) (h1 : p.1 < p.2) (h2 : p.2 ≤ l.length) :
    Rd w (some ⟨b, off + p.1 * 32, none⟩) (cutH l p).length (c - p.1) 32 (hsc (cutH l p)) := by
  have hle := h.le
  have hc := h.cut p.1 p.2 c (by omega) (by omega) (Nat.le_refl _) h2
  rw [if_neg (by omega), Option.map_some, Addr.add_mid] at hc
  rw [cutH_length l p h2]
  have e : hsc (cutH l p) = ((hsc l).take (p.2 * 32)).drop (p.1 * 32) := by
    unfold cutH
    rw [hsc_take l p.2 h2, hsc_drop _ p.1 (by rw [List.length_take]; omega), List.drop_take]
  rw [e]
  exact hc

set_option maxHeartbeats 1000000 in
theorem roots_any (l : List Hsh) (a : Option Addr) (c : Nat) (ps : List (Nat × Nat)) (pa : Option Addr) (pc : Nat) (w : World) (hr : Rd w a l.length c 32 (hsc l)) (hp : Rd w pa ps.length pc 2 (prs ps))
    (hok : ∀ p ∈ ps, p.1 < p.2 ∧ p.2 ≤ l.length) (hll : l.length ≤ 1000) (hpl : ps.length ≤ 100000) (hL : Laid w) (h2 : 2 ≤ w.heap.size) :
    Calls Tryd.prog 19 #[.slice a l.length c, .slice pa ps.length pc] w fun e w' => ∃ v, e = .returned v ∧ NewHs w v w' (rootsH l ps) := by
  obtain ⟨i0, T⟩ := Tryd.thashes
  have HT := Lib.hid T
  have HR := Lib.hid hr
  have HP := Lib.hid hp
  have HOK := Lib.hid hok
  have HL := Lib.hid hL
  clear T hr hp hok hL
  go_enter Tryd.func19, Tryd.ntmps19
  go_wp2
  go_loopw [5, 7, 10] (fun v _ i wr => ∃ (k : Nat) (a2 : Option Addr) (c2 : Nat), k ≤ ps.length ∧ i = .int .i64 k ∧ v = .slice a2 k c2 ∧ wr.ownsRow 0 38 32 (.slice a2 k c2) k (hsc (rootsH l (ps.take k))) ∧ (∀ x ∈ aF a2, w.heap.size ≤ x) ∧ Kp [] w wr) (fun _ _ i _ => ps.length - (intOf i).toNat)
  case atStart => exact ⟨0, none, 0, by omega, rfl, rfl, World.ownsRow_nil _ _ _ _, by simp [aF], Kp.refl _ _⟩
  case round =>
    obtain ⟨k, a2, c2, hk, rfl, rfl, hown, hF, hkp⟩ := hrel
    by_cases hlt : k < ps.length
    · obtain ⟨bp, op, rfl, _, hcp⟩ := (HP.out.below hkp).spot (by rw [prs_length]; omega)
      have hra := rd_pair hcp k hlt
      have hrs : rootsH l (ps.take (k + 1)) = rootsH l (ps.take k) ++ [rootH (cutH l ps[k])] := by
        rw [List.take_succ_eq_append_getElem hlt]; unfold rootsH; rw [List.map_append]; rfl
      obtain ⟨hp1, hp2⟩ := HOK.out ps[k] (List.getElem_mem hlt)
      obtain ⟨⟨p1, p2⟩, hpp⟩ : ∃ p, p = ps[k] := ⟨_, rfl⟩
      rw [← hpp] at hra hrs hp1 hp2
      simp only at hp1 hp2
      obtain ⟨bl, ol, rfl, _, _⟩ := HR.out.spot (by rw [hsc_length]; omega)
      have hcl := cutH_length l (p1, p2) hp2
      have hcall := fun W (hk : Kp [] w W) => root7_any (cutH l (p1, p2)) (some ⟨bl, ol + p1 * 32, none⟩) (c - p1) W (rd_cutH (HR.out.below hk) (p1, p2) hp1 hp2) (by rw [hcl]; simp only; omega) (by intro hh; rw [hh] at hcl; simp at hcl; omega) (HL.out.below hk) (Nat.le_trans h2 hk.size)
      rw [hcl] at hcall
      simp only at hcall
      obtain ⟨x, hx⟩ : ∃ x, x = rootH (cutH l (p1, p2)) := ⟨_, rfl⟩
      rw [← hx] at hcall hrs
      have hle := HR.out.le
      have hmax := HR.out.max
      unfold maxLen at hmax
      have HC := Lib.hid hcall
      have HRS := Lib.hid hrs
      have HRA := Lib.hid hra
      have HO := Lib.hid hown
      have HF := Lib.hid hF
      have HKP := Lib.hid hkp
      have q0 : (0 : Int) ≤ (p1 : Int) := by omega
      have q1 : (p1 : Int) ≤ (p2 : Int) := by omega
      have q2 : (p2 : Int) ≤ (c : Int) := by omega
      have q3 : ¬ c = p1 := by omega
      clear hcall hrs hra hown hF hkp hcp hpp hcl hx
      go_wp2_with (first | (refine wpList_get_mid Tryd.tpair rfl rfl HRA.out rfl rfl ?_) | (refine wpList_set Tryd.tpair rfl rfl (heap_alloc_new _ _) rfl rfl (pairC_one (p1, p2)) rfl rfl ?_; intro w9 h9 k9 s9; have c0 := cell_of_row w9 _ 0 _ _ _ h9; have c1 := cell_of_row w9 _ 1 _ _ _ h9; simp only [pairC, List.getElem?_toArray, List.getElem?_cons_zero, List.getElem?_cons_succ] at c0 c1; have H9 := Lib.hid h9; have K9 := Lib.hid k9; clear h9 k9 s9))
      have k19 : Kp [] wr w9 := ((Kp.refl [] wr).alloc _).trans K9.out (fun x hx hlt => by simp at hx; omega)
      have K19 := Lib.hid k19
      have K09 := Lib.hid (HKP.out.trans k19 (by simp))
      clear k19
      refine (HC.out _ K09.out).mono ?_
      rintro e w3 ⟨rfl, k3⟩
      have K3 := Lib.hid (K09.out.trans k3 (by simp))
      have HO3 := Lib.hid (own_kept HO.out (K19.out.trans k3 (by simp)) (by simp))
      clear k3 c0 c1 q0 q1 q2 q3
      go_wp2_with (first | (refine wpList_lit HT.out rfl rfl [hv x] rfl (by first | rfl | (simp [Act.eval]; done) | (simp [Act.eval]; rfl)) (hvs_size [x]) (by simp) ?_) | (at_builtin; refine wpList_append_rd HT.out rfl rfl rfl (HO3.out.alloc _) rfl (rd_alloc (m := 1) (by rw [flatV_one]; simp [hcs_length]) (by simp [maxLen])) (by rw [flatV_one]; exact hcs_one x) (by omega) (by simp [maxLen]; omega) ?_; intro a4 c4 w4 hown4 hgrow4 hF4; have HO4 := Lib.hid hown4; have HG4 := Lib.hid hgrow4; have HF4 := Lib.hid hF4; clear hown4 hgrow4 hF4))
      go_roundw
      case rel =>
        refine ⟨k + 1, a4, c4, by omega, by go_num, rfl, ?_, fun y hy => ?_, (K3.out.alloc _).pushed HG4.out (fun y hy => .inr (HF.out y hy))⟩
        · rw [HRS.out, hsc_snoc]
          have := HO4.out
          rw [flatV_one] at this
          exact this
        · rcases HF4.out y hy with h | h
          · exact HF.out y h
          · rw [h]; have := K3.out.size; simp; omega
      case measure => simp [intOf]; omega
    · obtain rfl : k = ps.length := by omega
      have HO := Lib.hid hown
      have HF := Lib.hid hF
      have HKP := Lib.hid hkp
      clear hown hF hkp
      go_wp2
      go_ret
      have h := HO.out
      rw [List.take_length] at h
      have hl : (rootsH l ps).length = ps.length := by unfold rootsH; rw [List.length_map]
      exact ⟨_, rfl, a2, c2, by rw [hl]; rfl, by rw [hl]; exact h, HF.out, HKP.out⟩
end Go.Proofs.YtkjdnpalafldhaaDoor
