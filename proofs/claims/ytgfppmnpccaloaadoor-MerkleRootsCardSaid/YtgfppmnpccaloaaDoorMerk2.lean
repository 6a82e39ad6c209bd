/-
  merkle.Root: the root of a list.
-/
import Derived.Test.YtgfppmnpccaloaaDoorMerk1
namespace Go.Proofs.YtgfppmnpccaloaaDoor
open Go.RowKit

theorem hsc_take (l : List Hsh) (k : Nat) (h : k ≤ l.length) : (hsc l).take (k * 32) = hsc (l.take k) := by
  have e : hsc l = hsc (l.take k) ++ hsc (l.drop k) := by
    have h0 : l = l.take k ++ l.drop k := (List.take_append_drop k l).symm
    exact (congrArg hsc h0).trans (hsc_app _ _)
  rw [e, List.take_left']
  rw [hsc_length, List.length_take]; congr 1; omega
theorem hsc_drop (l : List Hsh) (k : Nat) (h : k ≤ l.length) : (hsc l).drop (k * 32) = hsc (l.drop k) := by
  have e : hsc l = hsc (l.take k) ++ hsc (l.drop k) := by
    have h0 : l = l.take k ++ l.drop k := (List.take_append_drop k l).symm
    exact (congrArg hsc h0).trans (hsc_app _ _)
  rw [e, List.drop_left']
  rw [hsc_length, List.length_take]; congr 1; omega

def rootF : Nat → List Hsh → Hsh
  | 0, _ => shaH []
  | f + 1, l => if l.length = 0 then shaH [] else if l.length = 1 then l.headD zeroH else nodeH (rootF f (l.take (sp l.length))) (rootF f (l.drop (sp l.length)))
def rootH (l : List Hsh) : Hsh := rootF l.length l
theorem rootF_more : ∀ (f g : Nat) (l : List Hsh), l.length ≤ f → l.length ≤ g → l.length ≤ 9223372036854775808 → rootF f l = rootF g l
  | 0, 0, _, _, _, _ => rfl
  | 0, g + 1, l, h, _, _ => by
    have h0 : l.length = 0 := by omega
    rw [rootF, rootF, if_pos h0]
  | f + 1, 0, l, _, h, _ => by
    have h0 : l.length = 0 := by omega
    rw [rootF, rootF, if_pos h0]
  | f + 1, g + 1, l, hf, hg, hb => by
    rw [rootF, rootF]
    split
    · rfl
    · split
      · rfl
      · obtain ⟨_, _, h3, h4, h5⟩ := sp_spec l.length (by omega) hb
        rw [rootF_more f g _ (by rw [List.length_take]; omega) (by rw [List.length_take]; omega) (by rw [List.length_take]; omega), rootF_more f g _ (by rw [List.length_drop]; omega) (by rw [List.length_drop]; omega) (by rw [List.length_drop]; omega)]
theorem rootH_nil : rootH [] = shaH [] := rfl
theorem rootH_one (x : Hsh) : rootH [x] = x := rfl
theorem rootH_split (l : List Hsh) (h : 2 ≤ l.length) (hb : l.length ≤ 9223372036854775808) : rootH l = nodeH (rootH (l.take (sp l.length))) (rootH (l.drop (sp l.length))) := by
  obtain ⟨_, _, h3, h4, h5⟩ := sp_spec l.length h hb
  obtain ⟨f, hf⟩ : ∃ f, l.length = f + 1 := ⟨l.length - 1, by omega⟩
  have e : rootH l = nodeH (rootF f (l.take (sp l.length))) (rootF f (l.drop (sp l.length))) := by
    unfold rootH
    rw [hf, rootF, if_neg (by omega), if_neg (by omega), hf]
  rw [e]
  unfold rootH
  rw [rootF_more f (l.take (sp l.length)).length _ (by rw [List.length_take]; omega) (Nat.le_refl _) (by rw [List.length_take]; omega), rootF_more f (l.drop (sp l.length)).length _ (by rw [List.length_drop]; omega) (Nat.le_refl _) (by rw [List.length_drop]; omega)]

def RootC (l : List Hsh) : Prop := ∀ (a : Option Addr) (c : Nat) (w : World), Rd w a l.length c 32 (hsc l) → Laid w → 2 ≤ w.heap.size →
  Calls Tryd.prog 4 #[.slice a l.length c] w fun e w' => e = .returned (hv (rootH l)) ∧ Kp [] w w'

theorem root_nil : RootC [] := by
  intro a c w hr hL h2
  have k0 := (Kp.refl [] w).alloc (.cells (hvA zeroH) 24)
  have HGR := Lib.hid (heap_alloc_new w (.cells (hvA zeroH) 24))
  have HL := Lib.hid hL
  have K0 := Lib.hid k0
  clear hr hL k0
  rw [List.length_nil, rootH_nil]
  go_enter Tryd.func4, Tryd.ntmps4
  go_wp2_with fail
  rw [zeroH_lit]
  refine (sum_any none 0 [] _ (nil_rd _ 1) (HL.out.below K0.out) (Nat.le_trans h2 K0.out.size)).mono ?_
  rintro e w3 ⟨rfl, k3⟩
  have HG := Lib.hid ((k3.block w.heap.size (by simp) (by simp)).trans HGR.out)
  have K3 := Lib.hid (K0.out.trans k3 (by simp))
  clear k3
  go_wp2_with (refine wpList_set Tryd.thash rfl rfl HG.out (hvA_size _) (hvA_size _) (hvA_one _) rfl rfl ?_; intro w9 h9 k9 s9)
  refine ret_block Tryd.thash rfl h9 (hvA_size _) rfl rfl ⟨rfl, ?_⟩
  exact K3.out.trans k9 (fun x hx hlt => by simp at hx; omega)

theorem root_one (x : Hsh) : RootC [x] := by
  intro a c w hr hL h2
  obtain ⟨b, off, rfl, _, hc⟩ := hr.spot (by rw [hsc_length]; simp)
  have hra := rd_hash hc 0 (by simp)
  have k0 := (Kp.refl [] w).alloc (.cells (hvA zeroH) 24)
  have HGR := Lib.hid (heap_alloc_new w (.cells (hvA zeroH) 24))
  have HRA := Lib.hid (show (w.alloc (.cells (hvA zeroH) 24)).rangeAt b off (hcs x) by
    have := rangeAt_kept hra k0 (by simp); rw [Nat.zero_mul, Nat.add_zero] at this; exact this)
  have K0 := Lib.hid k0
  clear hr hL k0 hra hc
  rw [rootH_one, show [x].length = 1 from rfl]
  go_enter Tryd.func4, Tryd.ntmps4
  go_wp2_with (first | (refine wpList_get_mid Tryd.thash rfl rfl HRA.out (hcs_length _) rfl ?_) | (refine wpList_set Tryd.thash rfl rfl HGR.out (hvA_size _) (hvA_size _) (hvA_one _) rfl rfl ?_; intro w9 h9 k9 s9))
  refine ret_block Tryd.thash rfl h9 (hvA_size _) rfl rfl ⟨rfl, ?_⟩
  exact K0.out.trans k9 (fun x hx hlt => by simp at hx; omega)
end Go.Proofs.YtgfppmnpccaloaaDoor
