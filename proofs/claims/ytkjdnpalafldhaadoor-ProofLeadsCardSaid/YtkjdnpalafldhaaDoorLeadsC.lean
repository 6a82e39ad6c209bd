/-
  ProofLeads, in parts. (Printed by gen_lawleads.py.)
-/
import Derived.Test.YtkjdnpalafldhaaDoorPrf3
import Derived.Test.YtkjdnpalafldhaaDoorPrf9
import Derived.Test.YtkjdnpalafldhaaDoorPrf12
import Derived.Test.YtkjdnpalafldhaaDoorAwake8
import Derived.Test.YtkjdnpalafldhaaDoorLeadsP
namespace Go.Proofs.YtkjdnpalafldhaaDoor.proofLeads
open Go.ChangeShapes Go.WideShapes Go.ChangeAt Go.RowKit Go.Proofs.YtkjdnpalafldhaaDoor

set_option maxRecDepth 100000 in
set_option maxHeartbeats 4000000 in
theorem walk_eq (leaf : Hsh) (I N : Nat) (a : Option Addr) (c : Nat) (l : List Hsh) (root : Hsh) (w : World) (hr : Rd w a l.length c 32 (hsc l)) (hl : l.length ≤ 80) (hN : N ≤ 1152921504606846976) (hi : I < N) (hk : l.length = (sideL I (N - 1)).length) (hL : Laid w) (h2 : 2 ≤ w.heap.size) :
    Calls Tryd.prog 8 #[hv leaf, .agg (plA I N a l.length c root)] w fun e w' => e = .returned (.bool true) ∧ Kp [] w w' := by
  have HL := Lib.hid hL
  have HR := Lib.hid hr
  have HLD := Lib.hid (fun W (k : Kp [] w W) => lead_good leaf I N l a c W (hr.below k) hi hN (hL.below k) (Nat.le_trans h2 k.size))
  have HLN := Lib.hid (fun W => length_good I N W hi hN)
  have HSD := Lib.hid (fun W => refSides_all N I N W (Nat.le_refl _) (by omega) hN hi)
  have HIN := Lib.hid (fun W (k : Kp [] w W) (rt : Hsh) => in_good leaf rt I N l a c W (hr.below k) hi hN (hL.below k) (Nat.le_trans h2 k.size))
  rw [leadF_is l I (N - 1) leaf (by omega)] at HLD HIN
  rw [sideF_is N I N (Nat.le_refl _) hi (by omega)] at HSD
  have hsl := sideL_le I (N - 1) (by omega) (by omega)
  obtain ⟨sd, hsd⟩ : ∃ s, s = sideL I (N - 1) := ⟨_, rfl⟩
  rw [← hsd] at HLD HIN HSD HLN hk hsl
  obtain ⟨x, hx⟩ : ∃ x, x = foldS leaf l sd := ⟨_, rfl⟩
  rw [if_pos hk, ← hx] at HLD HIN
  have HX := Lib.hid hx.symm
  have hleq : ((l.length : Int) == (sd.length : Int)) = true := by rw [beq_iff_eq]; omega
  have HK := Lib.hid hk
  have heq : ∀ w, (Op.equalIn 10000 38 (.agg (hvA x)) (.agg (hvA x))).run Tryd.prog w = .ok true w := fun w => by have := Tryd.equalHash w x x; simpa using this
  have hne : ∀ w, (Op.equalIn 10000 38 (.agg (hvA x)) (.agg (hvA root))).run Tryd.prog w = .ok (decide (x = root)) w := fun w => Tryd.equalHash w x root
  have hne2 : ∀ w, (Op.equalIn 10000 38 (.agg (hvA x)) (.agg (hcs root).toArray)).run Tryd.prog w = .ok (decide (x = root)) w := fun w => Tryd.equalHash w x root
  have hgt : Tryd.prog.eqGuardType Tryd.prog.depth 38 = false := Tryd.eqGuardType38
  clear hx
  have HS := Lib.hid (St.start [] w)
  have hI0 : ¬ (I : Int) < 0 := by omega
  have hIN : ¬ (I : Int) ≥ (N : Int) := by omega
  have hl1 : ¬ (l.length : Int) > 80 := by omega
  have hN1 : ¬ (N : Int) > 1152921504606846976 := by omega
  have tokN0 : True := trivial
  have tokB0 : True := trivial
  have tokB1 : True := trivial
  clear hL hr hk hsd
  go_enter Tryd.func8, Tryd.ntmps8
  go_wp2_with (first
    | (have _t := tokB0; refine boxS HS.out rfl rfl rfl (c := hvA leaf) rfl ?_; clear tokB0; intro g2 w1 hs; clear HS; have HS := Lib.hid hs; clear hs)
    | (have _t := tokB1; refine boxS HS.out rfl rfl rfl (c := plA I N a l.length c root) rfl ?_; clear tokB1; intro g3 w1 hs; clear HS; have HS := Lib.hid hs; clear hs)
    | (have _t := tokN0; refine newS HS.out Tryd.zhash rfl rfl (c := hvA zeroH) rfl ?_; clear tokN0; intro g5 w1 hs; clear HS; have HS := Lib.hid hs; clear hs)
    | (refine isLoad rfl ?_; first | (refine cellS0 HS.out Tryd.scint rfl rfl rfl (pl_0 _ _ _ _ _ _) ?_) | (refine cellS0 HS.out Tryd.scint rfl rfl rfl (pl_1 _ _ _ _ _ _) ?_) | (refine cellS0 HS.out Tryd.schashes rfl rfl rfl (pl_2 _ _ _ _ _ _) ?_) | (refine cellS1 HS.out Tryd.scint rfl rfl rfl (pl_0 _ _ _ _ _ _) ?_) | (refine cellS1 HS.out Tryd.scint rfl rfl rfl (pl_1 _ _ _ _ _ _) ?_) | (refine cellS1 HS.out Tryd.schashes rfl rfl rfl (pl_2 _ _ _ _ _ _) ?_) | (refine cellS2 HS.out Tryd.scint rfl rfl rfl (pl_0 _ _ _ _ _ _) ?_) | (refine cellS2 HS.out Tryd.scint rfl rfl rfl (pl_1 _ _ _ _ _ _) ?_) | (refine cellS2 HS.out Tryd.schashes rfl rfl rfl (pl_2 _ _ _ _ _ _) ?_) | (refine getS0 HS.out Tryd.aghash rfl rfl rfl (by first | exact hvA_size _ | rfl) ?_) | (refine getS1 HS.out Tryd.aghash rfl rfl rfl (by first | exact hvA_size _ | rfl) ?_) | (refine getS2 HS.out Tryd.aghash rfl rfl rfl (by first | exact hvA_size _ | rfl) ?_) | (refine getfS0 HS.out Tryd.aghash rfl rfl rfl (mid := hcs root) (pl_root _ _ _ _ _ _) (hcs_length _) ?_) | (refine getfS1 HS.out Tryd.aghash rfl rfl rfl (mid := hcs root) (pl_root _ _ _ _ _ _) (hcs_length _) ?_) | (refine getfS2 HS.out Tryd.aghash rfl rfl rfl (mid := hcs root) (pl_root _ _ _ _ _ _) (hcs_length _) ?_))
    | (refine isStore rfl ?_; first | (refine setS0 HS.out Tryd.aghash rfl rfl rfl (by first | exact hvA_size _ | rfl) rfl (by first | exact hvA_size _ | rfl) (hvA_one _) ?_; intro w1 hs; clear HS; have HS := Lib.hid hs; clear hs) | (refine setS0 HS.out Tryd.aghash rfl rfl rfl (by first | exact hvA_size _ | rfl) (c := hvA zeroH) rfl (hvA_size _) (hvA_one _) ?_; intro w1 hs; clear HS; have HS := Lib.hid hs; clear hs) | (refine setS1 HS.out Tryd.aghash rfl rfl rfl (by first | exact hvA_size _ | rfl) rfl (by first | exact hvA_size _ | rfl) (hvA_one _) ?_; intro w1 hs; clear HS; have HS := Lib.hid hs; clear hs) | (refine setS1 HS.out Tryd.aghash rfl rfl rfl (by first | exact hvA_size _ | rfl) (c := hvA zeroH) rfl (hvA_size _) (hvA_one _) ?_; intro w1 hs; clear HS; have HS := Lib.hid hs; clear hs) | (refine setS2 HS.out Tryd.aghash rfl rfl rfl (by first | exact hvA_size _ | rfl) rfl (by first | exact hvA_size _ | rfl) (hvA_one _) ?_; intro w1 hs; clear HS; have HS := Lib.hid hs; clear hs) | (refine setS2 HS.out Tryd.aghash rfl rfl rfl (by first | exact hvA_size _ | rfl) (c := hvA zeroH) rfl (hvA_size _) (hvA_one _) ?_; intro w1 hs; clear HS; have HS := Lib.hid hs; clear hs)))
  refine (HLD.out _ HS.out.kp).mono ?_
  rintro e w1 ⟨rfl, k1⟩
  have HS := Lib.hid (HS.out.call k1)
  clear k1
  simp only [leadV, hcsA]
  go_wp2_with (first
      | (have _t := tokN0; refine newS HS.out Tryd.zhash rfl rfl (c := hvA zeroH) rfl ?_; clear tokN0; intro g5 w1 hs; clear HS; have HS := Lib.hid hs; clear hs)
      | (refine isLoad rfl ?_; first | (refine cellS0 HS.out Tryd.scint rfl rfl rfl (pl_0 _ _ _ _ _ _) ?_) | (refine cellS0 HS.out Tryd.scint rfl rfl rfl (pl_1 _ _ _ _ _ _) ?_) | (refine cellS0 HS.out Tryd.schashes rfl rfl rfl (pl_2 _ _ _ _ _ _) ?_) | (refine cellS1 HS.out Tryd.scint rfl rfl rfl (pl_0 _ _ _ _ _ _) ?_) | (refine cellS1 HS.out Tryd.scint rfl rfl rfl (pl_1 _ _ _ _ _ _) ?_) | (refine cellS1 HS.out Tryd.schashes rfl rfl rfl (pl_2 _ _ _ _ _ _) ?_) | (refine cellS2 HS.out Tryd.scint rfl rfl rfl (pl_0 _ _ _ _ _ _) ?_) | (refine cellS2 HS.out Tryd.scint rfl rfl rfl (pl_1 _ _ _ _ _ _) ?_) | (refine cellS2 HS.out Tryd.schashes rfl rfl rfl (pl_2 _ _ _ _ _ _) ?_) | (refine getS0 HS.out Tryd.aghash rfl rfl rfl (by first | exact hvA_size _ | rfl) ?_) | (refine getS1 HS.out Tryd.aghash rfl rfl rfl (by first | exact hvA_size _ | rfl) ?_) | (refine getS2 HS.out Tryd.aghash rfl rfl rfl (by first | exact hvA_size _ | rfl) ?_) | (refine getfS0 HS.out Tryd.aghash rfl rfl rfl (mid := hcs root) (pl_root _ _ _ _ _ _) (hcs_length _) ?_) | (refine getfS1 HS.out Tryd.aghash rfl rfl rfl (mid := hcs root) (pl_root _ _ _ _ _ _) (hcs_length _) ?_) | (refine getfS2 HS.out Tryd.aghash rfl rfl rfl (mid := hcs root) (pl_root _ _ _ _ _ _) (hcs_length _) ?_))
      | (refine isStore rfl ?_; first | (refine setS0 HS.out Tryd.aghash rfl rfl rfl (by first | exact hvA_size _ | rfl) rfl (by first | exact hvA_size _ | rfl) (hvA_one _) ?_; intro w1 hs; clear HS; have HS := Lib.hid hs; clear hs) | (refine setS0 HS.out Tryd.aghash rfl rfl rfl (by first | exact hvA_size _ | rfl) (c := hvA zeroH) rfl (hvA_size _) (hvA_one _) ?_; intro w1 hs; clear HS; have HS := Lib.hid hs; clear hs) | (refine setS1 HS.out Tryd.aghash rfl rfl rfl (by first | exact hvA_size _ | rfl) rfl (by first | exact hvA_size _ | rfl) (hvA_one _) ?_; intro w1 hs; clear HS; have HS := Lib.hid hs; clear hs) | (refine setS1 HS.out Tryd.aghash rfl rfl rfl (by first | exact hvA_size _ | rfl) (c := hvA zeroH) rfl (hvA_size _) (hvA_one _) ?_; intro w1 hs; clear HS; have HS := Lib.hid hs; clear hs) | (refine setS2 HS.out Tryd.aghash rfl rfl rfl (by first | exact hvA_size _ | rfl) rfl (by first | exact hvA_size _ | rfl) (hvA_one _) ?_; intro w1 hs; clear HS; have HS := Lib.hid hs; clear hs) | (refine setS2 HS.out Tryd.aghash rfl rfl rfl (by first | exact hvA_size _ | rfl) (c := hvA zeroH) rfl (hvA_size _) (hvA_one _) ?_; intro w1 hs; clear HS; have HS := Lib.hid hs; clear hs)))
  refine (HSD.out _).mono ?_
  rintro e w1 ⟨v, rfl, a7, c7, rfl, o7, f7, k7⟩
  have HS := Lib.hid (HS.out.addRow k7 o7 f7)
  clear o7 f7 k7
  go_wp2_with (first
      | (refine isLoad rfl ?_; first | (refine cellS0 HS.out Tryd.scint rfl rfl rfl (pl_0 _ _ _ _ _ _) ?_) | (refine cellS0 HS.out Tryd.scint rfl rfl rfl (pl_1 _ _ _ _ _ _) ?_) | (refine cellS0 HS.out Tryd.schashes rfl rfl rfl (pl_2 _ _ _ _ _ _) ?_) | (refine cellS1 HS.out Tryd.scint rfl rfl rfl (pl_0 _ _ _ _ _ _) ?_) | (refine cellS1 HS.out Tryd.scint rfl rfl rfl (pl_1 _ _ _ _ _ _) ?_) | (refine cellS1 HS.out Tryd.schashes rfl rfl rfl (pl_2 _ _ _ _ _ _) ?_) | (refine cellS2 HS.out Tryd.scint rfl rfl rfl (pl_0 _ _ _ _ _ _) ?_) | (refine cellS2 HS.out Tryd.scint rfl rfl rfl (pl_1 _ _ _ _ _ _) ?_) | (refine cellS2 HS.out Tryd.schashes rfl rfl rfl (pl_2 _ _ _ _ _ _) ?_) | (refine getS0 HS.out Tryd.aghash rfl rfl rfl (by first | exact hvA_size _ | rfl) ?_) | (refine getS1 HS.out Tryd.aghash rfl rfl rfl (by first | exact hvA_size _ | rfl) ?_) | (refine getS2 HS.out Tryd.aghash rfl rfl rfl (by first | exact hvA_size _ | rfl) ?_) | (refine getfS0 HS.out Tryd.aghash rfl rfl rfl (mid := hcs root) (pl_root _ _ _ _ _ _) (hcs_length _) ?_) | (refine getfS1 HS.out Tryd.aghash rfl rfl rfl (mid := hcs root) (pl_root _ _ _ _ _ _) (hcs_length _) ?_) | (refine getfS2 HS.out Tryd.aghash rfl rfl rfl (mid := hcs root) (pl_root _ _ _ _ _ _) (hcs_length _) ?_))
      | (refine isStore rfl ?_; first | (refine setS0 HS.out Tryd.aghash rfl rfl rfl (by first | exact hvA_size _ | rfl) rfl (by first | exact hvA_size _ | rfl) (hvA_one _) ?_; intro w1 hs; clear HS; have HS := Lib.hid hs; clear hs) | (refine setS0 HS.out Tryd.aghash rfl rfl rfl (by first | exact hvA_size _ | rfl) (c := hvA zeroH) rfl (hvA_size _) (hvA_one _) ?_; intro w1 hs; clear HS; have HS := Lib.hid hs; clear hs) | (refine setS1 HS.out Tryd.aghash rfl rfl rfl (by first | exact hvA_size _ | rfl) rfl (by first | exact hvA_size _ | rfl) (hvA_one _) ?_; intro w1 hs; clear HS; have HS := Lib.hid hs; clear hs) | (refine setS1 HS.out Tryd.aghash rfl rfl rfl (by first | exact hvA_size _ | rfl) (c := hvA zeroH) rfl (hvA_size _) (hvA_one _) ?_; intro w1 hs; clear HS; have HS := Lib.hid hs; clear hs) | (refine setS2 HS.out Tryd.aghash rfl rfl rfl (by first | exact hvA_size _ | rfl) rfl (by first | exact hvA_size _ | rfl) (hvA_one _) ?_; intro w1 hs; clear HS; have HS := Lib.hid hs; clear hs) | (refine setS2 HS.out Tryd.aghash rfl rfl rfl (by first | exact hvA_size _ | rfl) (c := hvA zeroH) rfl (hvA_size _) (hvA_one _) ?_; intro w1 hs; clear HS; have HS := Lib.hid hs; clear hs)))
  refine (HLN.out _).mono ?_
  rintro e w1 ⟨rfl, rfl⟩
  go_wp2_with (first
      | (refine isLoad rfl ?_; first | (refine cellS0 HS.out Tryd.scint rfl rfl rfl (pl_0 _ _ _ _ _ _) ?_) | (refine cellS0 HS.out Tryd.scint rfl rfl rfl (pl_1 _ _ _ _ _ _) ?_) | (refine cellS0 HS.out Tryd.schashes rfl rfl rfl (pl_2 _ _ _ _ _ _) ?_) | (refine cellS1 HS.out Tryd.scint rfl rfl rfl (pl_0 _ _ _ _ _ _) ?_) | (refine cellS1 HS.out Tryd.scint rfl rfl rfl (pl_1 _ _ _ _ _ _) ?_) | (refine cellS1 HS.out Tryd.schashes rfl rfl rfl (pl_2 _ _ _ _ _ _) ?_) | (refine cellS2 HS.out Tryd.scint rfl rfl rfl (pl_0 _ _ _ _ _ _) ?_) | (refine cellS2 HS.out Tryd.scint rfl rfl rfl (pl_1 _ _ _ _ _ _) ?_) | (refine cellS2 HS.out Tryd.schashes rfl rfl rfl (pl_2 _ _ _ _ _ _) ?_) | (refine getS0 HS.out Tryd.aghash rfl rfl rfl (by first | exact hvA_size _ | rfl) ?_) | (refine getS1 HS.out Tryd.aghash rfl rfl rfl (by first | exact hvA_size _ | rfl) ?_) | (refine getS2 HS.out Tryd.aghash rfl rfl rfl (by first | exact hvA_size _ | rfl) ?_) | (refine getfS0 HS.out Tryd.aghash rfl rfl rfl (mid := hcs root) (pl_root _ _ _ _ _ _) (hcs_length _) ?_) | (refine getfS1 HS.out Tryd.aghash rfl rfl rfl (mid := hcs root) (pl_root _ _ _ _ _ _) (hcs_length _) ?_) | (refine getfS2 HS.out Tryd.aghash rfl rfl rfl (mid := hcs root) (pl_root _ _ _ _ _ _) (hcs_length _) ?_))
      | (refine isStore rfl ?_; first | (refine setS0 HS.out Tryd.aghash rfl rfl rfl (by first | exact hvA_size _ | rfl) rfl (by first | exact hvA_size _ | rfl) (hvA_one _) ?_; intro w1 hs; clear HS; have HS := Lib.hid hs; clear hs) | (refine setS0 HS.out Tryd.aghash rfl rfl rfl (by first | exact hvA_size _ | rfl) (c := hvA zeroH) rfl (hvA_size _) (hvA_one _) ?_; intro w1 hs; clear HS; have HS := Lib.hid hs; clear hs) | (refine setS1 HS.out Tryd.aghash rfl rfl rfl (by first | exact hvA_size _ | rfl) rfl (by first | exact hvA_size _ | rfl) (hvA_one _) ?_; intro w1 hs; clear HS; have HS := Lib.hid hs; clear hs) | (refine setS1 HS.out Tryd.aghash rfl rfl rfl (by first | exact hvA_size _ | rfl) (c := hvA zeroH) rfl (hvA_size _) (hvA_one _) ?_; intro w1 hs; clear HS; have HS := Lib.hid hs; clear hs) | (refine setS2 HS.out Tryd.aghash rfl rfl rfl (by first | exact hvA_size _ | rfl) rfl (by first | exact hvA_size _ | rfl) (hvA_one _) ?_; intro w1 hs; clear HS; have HS := Lib.hid hs; clear hs) | (refine setS2 HS.out Tryd.aghash rfl rfl rfl (by first | exact hvA_size _ | rfl) (c := hvA zeroH) rfl (hvA_size _) (hvA_one _) ?_; intro w1 hs; clear HS; have HS := Lib.hid hs; clear hs)))
  have HF0 := HS.out.drew
  clear HS
  refine regionK 10 (fun W => St [] w [⟨g5, hvA x, 38⟩, ⟨g3, plA I N a l.length c root, 47⟩, ⟨g2, hvA leaf, 38⟩] [⟨4, 1, a7, sd.length, c7, bvs sd⟩] W) (by kernel_rfl) HF0 (fun hHeld => ?_)
  have HF := HF0
  clear HF0
  refine takeK (i := 0) (dst := (some 87)) rfl rfl (by kernel_rfl) (by kernel_rfl) (by kernel_rfl) (by kernel_rfl) (by kernel_rfl) (fun _ _ _ h => h) hHeld (yields_get Tryd.aghash (by rfl) rfl rfl (hcs_length _) (fun w h => h.rangeH (g := g2) (x := leaf) (t := 38) (by simp))) ?_
  try simp only [Act.put, List.setIfInBounds_toArray, List.set_cons_zero, List.set_cons_succ, hcsA]
  refine takeP (i := 1) (dst := (some 88)) (v := ?_) rfl rfl (by kernel_rfl) (by kernel_rfl) (by kernel_rfl) (by decide) (fun _ _ _ h => h) (fun _ => hHeld) (Or.inl ⟨by rfl, ?_⟩) ?_
  rotate_left
  · intro w' _
    go_simp
    all_goals (with_reducible rfl)
  try simp only [Act.put, List.setIfInBounds_toArray, List.set_cons_zero, List.set_cons_succ]
  refine takeK (i := 2) (dst := (some 89)) rfl rfl (by kernel_rfl) (by kernel_rfl) (by kernel_rfl) (by kernel_rfl) (by kernel_rfl) (fun _ _ _ h => h) hHeld (yields_cell Tryd.schashes (by rfl) rfl rfl (fun w h => h.cellAt (g := g3) (c := plA I N a l.length c root) (t := 47) (by simp) (pl_2 _ _ _ _ _ _))) ?_
  try simp only [Act.put, List.setIfInBounds_toArray, List.set_cons_zero, List.set_cons_succ]
  refine takeP (i := 3) (dst := (some 90)) (v := ?_) rfl rfl (by kernel_rfl) (by kernel_rfl) (by kernel_rfl) (by decide) (fun _ _ _ h => h) (fun _ => hHeld) (Or.inl ⟨by rfl, ?_⟩) ?_
  rotate_left
  · intro w' _
    go_simp
    all_goals (with_reducible rfl)
  try simp only [Act.put, List.setIfInBounds_toArray, List.set_cons_zero, List.set_cons_succ]
  refine takeP (i := 4) (dst := (some 91)) (v := ?_) rfl rfl (by kernel_rfl) (by kernel_rfl) (by kernel_rfl) (by decide) (fun _ _ _ h => h) (fun _ => hHeld) (Or.inl ⟨by rfl, ?_⟩) ?_
  rotate_left
  · intro w' _
    go_simp
    all_goals (with_reducible rfl)
  try simp only [Act.put, List.setIfInBounds_toArray, List.set_cons_zero, List.set_cons_succ]
  refine takeP (i := 5) (dst := (some 92)) (v := ?_) rfl rfl (by kernel_rfl) (by kernel_rfl) (by kernel_rfl) (by decide) (fun _ _ _ h => h) (fun _ => hHeld) (Or.inl ⟨by rfl, ?_⟩) ?_
  rotate_left
  · intro w' _
    go_simp
    all_goals (with_reducible rfl)
  try simp only [Act.put, List.setIfInBounds_toArray, List.set_cons_zero, List.set_cons_succ]
  refine takeP (i := 6) (dst := (some 93)) (v := ?_) rfl rfl (by kernel_rfl) (by kernel_rfl) (by kernel_rfl) (by decide) (fun _ _ _ h => h) (fun _ => hHeld) (Or.inl ⟨by rfl, ?_⟩) ?_
  rotate_left
  · intro w' _
    go_simp
    all_goals (with_reducible rfl)
  try simp only [Act.put, List.setIfInBounds_toArray, List.set_cons_zero, List.set_cons_succ]
  refine goK (i := 7) (dst := (some 8)) (by kernel_rfl) rfl rfl (by rfl) (fun o hop hdst => ?_)
  refine wNewS HF Tryd.zhash (hop.trans rfl) (c := hvA zeroH) rfl ?_
  intro g8 w1 hs
  refine ⟨fun _ => hs.sub (List.Sublist.cons _ (List.Sublist.refl _)) (List.Sublist.refl _), ?_⟩
  have hHeld := (hs.sub (List.Sublist.cons _ (List.Sublist.refl _)) (List.Sublist.refl _) : St [] w [⟨g5, hvA x, 38⟩, ⟨g3, plA I N a l.length c root, 47⟩, ⟨g2, hvA leaf, 38⟩] [⟨4, 1, a7, sd.length, c7, bvs sd⟩] w1)
  have HF := hs
  clear hs
  simp only [hdst, Act.put, List.setIfInBounds_toArray, List.set_cons_zero, List.set_cons_succ]
  clear hop hdst o
  refine goK (i := 8) (dst := none) (by kernel_rfl) rfl rfl (by rfl) (fun o hop hdst => ?_)
  refine wSetS0 HF Tryd.aghash (hop.trans rfl) rfl (by first | exact hvA_size _ | rfl) rfl (by first | exact hvA_size _ | rfl) (hvA_one _) ?_
  intro w1 hs
  refine ⟨fun _ => hs.sub (List.Sublist.cons _ (List.Sublist.refl _)) (List.Sublist.refl _), ?_⟩
  have hHeld := (hs.sub (List.Sublist.cons _ (List.Sublist.refl _)) (List.Sublist.refl _) : St [] w [⟨g5, hvA x, 38⟩, ⟨g3, plA I N a l.length c root, 47⟩, ⟨g2, hvA leaf, 38⟩] [⟨4, 1, a7, sd.length, c7, bvs sd⟩] w1)
  clear HF
  have HF := hs
  clear hs
  simp only [hdst, Act.put]
  clear hop hdst o
  refine takeP (i := 9) (dst := (some 9)) (v := ?_) rfl rfl (by kernel_rfl) (by kernel_rfl) (by kernel_rfl) (by decide) (fun _ _ _ h => h) (fun _ => hHeld) (Or.inl ⟨by rfl, ?_⟩) ?_
  rotate_left
  · intro w' _
    go_simp
    all_goals (with_reducible rfl)
  try simp only [Act.put, List.setIfInBounds_toArray, List.set_cons_zero, List.set_cons_succ]
  refine doneK (by kernel_rfl) ?_ _
  have HS := Lib.hid HF
  clear HF hHeld
  go_wp2_with fail
  go_loopw [10] (fun v10 wr => ∃ (k : Nat) (h : Hsh), k ≤ sd.length ∧ v10 = .int .i64 k ∧ foldS h (l.drop k) (sd.drop k) = x ∧ St [] w [⟨g8, hvA h, 38⟩, ⟨g5, hvA x, 38⟩, ⟨g3, plA I N a l.length c root, 47⟩, ⟨g2, hvA leaf, 38⟩] [⟨4, 1, a7, sd.length, c7, bvs sd⟩] wr) (fun v10 _ => sd.length - (intOf v10).toNat)
  case atStart => exact ⟨0, leaf, by omega, rfl, by rw [List.drop_zero, List.drop_zero]; exact HX.out, HS.out⟩
  case round =>
    obtain ⟨k, h, hk, rfl, hfo, hs⟩ := hrel
    clear HS
    have HS := Lib.hid hs
    have HFO := Lib.hid hfo
    clear hs hfo
    by_cases hlt : k < sd.length
    · obtain ⟨b, off, hsa, _, hcs⟩ := HR.out.spot (by rw [hsc_length]; have := HK.out; omega)
      subst hsa
      obtain ⟨b7, o7, hs7, _, _⟩ := (own_rd (HS.out.row ⟨4, 1, a7, sd.length, c7, bvs sd⟩ (by simp))).spot (by rw [bvs_length]; omega)
      subst hs7
      have hkx : k < l.length := by have := HK.out; omega
      have hra := rd_hash hcs k hkx
      have hbv := bvs_at sd k hlt
      rw [List.drop_eq_getElem_cons hkx, List.drop_eq_getElem_cons hlt, foldS] at HFO
      obtain ⟨p, hp⟩ : ∃ p, p = l[k] := ⟨_, rfl⟩
      obtain ⟨bo, hbo⟩ : ∃ b, b = sd[k] := ⟨_, rfl⟩
      rw [← hp] at hra HFO
      rw [← hbo] at hbv HFO
      have HRA := Lib.hid hra
      have HBV := Lib.hid hbv
      have HJ := Lib.hid (fun W (k : Kp [] w W) => join_any h p bo W (HL.out.below k) (Nat.le_trans h2 k.size))
      obtain ⟨j, hj⟩ : ∃ j, j = joinH h p bo := ⟨_, rfl⟩
      rw [← hj] at HJ HFO
      have hk2 : (k : Int) < (l.length : Int) := by omega

      have hk3 : (k : Int) < (sd.length : Int) := by omega
      clear hcs hra hbv hp hbo hj hkx
      go_wp2_with fail
      have HF0 := HS.out.drew
      clear HS
      refine regionK 11 (fun W => St [] w [⟨g8, hvA h, 38⟩, ⟨g5, hvA x, 38⟩, ⟨g3, plA I N (some ⟨b, off, none⟩) l.length c root, 47⟩, ⟨g2, hvA leaf, 38⟩] [⟨4, 1, some ⟨b7, o7, none⟩, sd.length, c7, bvs sd⟩] W) (by kernel_rfl) HF0 (fun hHeld => ?_)
      have HF := HF0
      clear HF0
      refine takeK (i := 0) (dst := (some 103)) rfl rfl (by kernel_rfl) (by kernel_rfl) (by kernel_rfl) (by kernel_rfl) (by kernel_rfl) (fun _ _ _ h => h) hHeld (yields_get Tryd.aghash (by rfl) rfl rfl (hcs_length _) (fun w hh => hh.rangeH (g := g8) (x := h) (t := 38) (by simp))) ?_
      try simp only [Act.put, List.setIfInBounds_toArray, List.set_cons_zero, List.set_cons_succ, hcsA]
      refine takeP (i := 1) (dst := (some 104)) (v := ?_) rfl rfl (by kernel_rfl) (by kernel_rfl) (by kernel_rfl) (by decide) (fun _ _ _ h => h) (fun _ => hHeld) (Or.inl ⟨by rfl, ?_⟩) ?_
      rotate_left
      · intro w' _
        go_simp
        all_goals (with_reducible rfl)
      try simp only [Act.put, List.setIfInBounds_toArray, List.set_cons_zero, List.set_cons_succ]
      refine takeK (i := 2) (dst := (some 105)) rfl rfl (by kernel_rfl) (by kernel_rfl) (by kernel_rfl) (by kernel_rfl) (by kernel_rfl) (fun _ _ _ h => h) hHeld (yields_cell Tryd.schashes (by rfl) rfl rfl (fun w hh => hh.cellAt (g := g3) (c := plA I N (some ⟨b, off, none⟩) l.length c root) (t := 47) (by simp) (pl_2 _ _ _ _ _ _))) ?_
      try simp only [Act.put, List.setIfInBounds_toArray, List.set_cons_zero, List.set_cons_succ]
      refine takeP (i := 3) (dst := (some 106)) (v := ?_) rfl rfl (by kernel_rfl) (by kernel_rfl) (by kernel_rfl) (by decide) (fun _ _ _ h => h) (fun _ => hHeld) (Or.inl ⟨by rfl, ?_⟩) ?_
      rotate_left
      · intro w' _
        go_simp
        all_goals (with_reducible rfl)
      try simp only [Act.put, List.setIfInBounds_toArray, List.set_cons_zero, List.set_cons_succ]
      refine takeP (i := 4) (dst := (some 107)) (v := ?_) rfl rfl (by kernel_rfl) (by kernel_rfl) (by kernel_rfl) (by decide) (fun _ _ _ h => h) (fun _ => hHeld) (Or.inl ⟨by rfl, ?_⟩) ?_
      rotate_left
      · intro w' _
        go_simp
        all_goals (with_reducible rfl)
      try simp only [Act.put, List.setIfInBounds_toArray, List.set_cons_zero, List.set_cons_succ]
      refine takeK (i := 5) (dst := (some 108)) rfl rfl (by kernel_rfl) (by kernel_rfl) (by kernel_rfl) (by kernel_rfl) (by kernel_rfl) (fun _ _ _ h => h) hHeld (yields_get Tryd.aghash (by rfl) rfl rfl (hcs_length _) (fun w hh => HRA.out.keptK hh.kp (by simp))) ?_
      try simp only [Act.put, List.setIfInBounds_toArray, List.set_cons_zero, List.set_cons_succ, hcsA]
      refine takeP (i := 6) (dst := (some 109)) (v := ?_) rfl rfl (by kernel_rfl) (by kernel_rfl) (by kernel_rfl) (by decide) (fun _ _ _ h => h) (fun _ => hHeld) (Or.inl ⟨by rfl, ?_⟩) ?_
      rotate_left
      · intro w' _
        go_simp
        all_goals (with_reducible rfl)
      try simp only [Act.put, List.setIfInBounds_toArray, List.set_cons_zero, List.set_cons_succ]
      refine takeP (i := 7) (dst := (some 110)) (v := ?_) rfl rfl (by kernel_rfl) (by kernel_rfl) (by kernel_rfl) (by decide) (fun _ _ _ h => h) (fun _ => hHeld) (Or.inl ⟨by rfl, ?_⟩) ?_
      rotate_left
      · intro w' _
        go_simp
        all_goals (with_reducible rfl)
      try simp only [Act.put, List.setIfInBounds_toArray, List.set_cons_zero, List.set_cons_succ]
      refine takeP (i := 8) (dst := (some 111)) (v := ?_) rfl rfl (by kernel_rfl) (by kernel_rfl) (by kernel_rfl) (by decide) (fun _ _ _ h => h) (fun _ => hHeld) (Or.inl ⟨by rfl, ?_⟩) ?_
      rotate_left
      · intro w' _
        go_simp
        all_goals (with_reducible rfl)
      try simp only [Act.put, List.setIfInBounds_toArray, List.set_cons_zero, List.set_cons_succ]
      refine takeK (i := 9) (dst := (some 112)) rfl rfl (by kernel_rfl) (by kernel_rfl) (by kernel_rfl) (by kernel_rfl) (by kernel_rfl) (fun _ _ _ h => h) hHeld (yields_cell Tryd.scbool (by rfl) rfl rfl (fun w hh => by simpa using rowCell hh (k := k) (List.mem_cons_self) HBV.out)) ?_
      try simp only [Act.put, List.setIfInBounds_toArray, List.set_cons_zero, List.set_cons_succ]
      refine goK (i := 10) (dst := (some 113)) (by kernel_rfl) rfl rfl (by rfl) (fun o hop hdst => ?_)
      refine wp_callC Tryd.func33 (by kernel_rfl) (by kernel_rfl) (hop.trans rfl) (by first | rfl | (simp [Act.eval]; done) | (simp [Act.eval]; rfl) | (simp [Act.eval]; exact ⟨rfl, rfl⟩)) (HJ.out _ HF.kp) ?_
      rintro e w1 ⟨rfl, k1⟩
      refine ⟨_, rfl, fun _ => hHeld.call k1, ?_⟩
      have hHeld := hHeld.call k1
      have HF := HF.call k1
      clear k1
      simp only [hdst, Act.put, List.setIfInBounds_toArray, List.set_cons_zero, List.set_cons_succ]
      clear hop hdst o
      refine goK (i := 11) (dst := none) (by kernel_rfl) rfl rfl (by rfl) (fun o hop hdst => ?_)
      refine wSetS0 HF Tryd.aghash (hop.trans rfl) rfl (by first | exact hvA_size _ | rfl) rfl (by first | exact hvA_size _ | rfl) (hvA_one _) ?_
      intro w1 hs
      refine ⟨fun h => absurd h (by decide), ?_⟩
      clear HF
      have HF := hs
      clear hs
      simp only [hdst, Act.put]
      clear hop hdst o
      refine doneK (by kernel_rfl) ?_ _
      have HS := Lib.hid HF
      clear HF hHeld
      go_wp2_with fail
      go_roundw
      case rel => exact ⟨k + 1, j, by omega, by go_num, HFO.out, HS.out⟩
      case measure => simp [intOf]; omega
    · obtain rfl : k = sd.length := by omega
      have hh : h = x := by
        have := HFO.out
        rw [List.drop_length, List.drop_eq_nil_of_le (by have := HK.out; omega)] at this
        exact this
      subst hh
      by_cases hro : h = root
      · have hd : decide (h = root) = true := decide_eq_true hro
        have HV := Lib.hid (show inV root (some h) = 0 from if_pos hro)
        have HV2 := Lib.hid (show inV h (some h) = 0 from if_pos rfl)
        clear hro
        go_wp2_with (first
    | (refine isLoad rfl ?_; first | (refine cellS0 HS.out Tryd.scint rfl rfl rfl (pl_0 _ _ _ _ _ _) ?_) | (refine cellS0 HS.out Tryd.scint rfl rfl rfl (pl_1 _ _ _ _ _ _) ?_) | (refine cellS0 HS.out Tryd.schashes rfl rfl rfl (pl_2 _ _ _ _ _ _) ?_) | (refine cellS1 HS.out Tryd.scint rfl rfl rfl (pl_0 _ _ _ _ _ _) ?_) | (refine cellS1 HS.out Tryd.scint rfl rfl rfl (pl_1 _ _ _ _ _ _) ?_) | (refine cellS1 HS.out Tryd.schashes rfl rfl rfl (pl_2 _ _ _ _ _ _) ?_) | (refine cellS2 HS.out Tryd.scint rfl rfl rfl (pl_0 _ _ _ _ _ _) ?_) | (refine cellS2 HS.out Tryd.scint rfl rfl rfl (pl_1 _ _ _ _ _ _) ?_) | (refine cellS2 HS.out Tryd.schashes rfl rfl rfl (pl_2 _ _ _ _ _ _) ?_) | (refine cellS3 HS.out Tryd.scint rfl rfl rfl (pl_0 _ _ _ _ _ _) ?_) | (refine cellS3 HS.out Tryd.scint rfl rfl rfl (pl_1 _ _ _ _ _ _) ?_) | (refine cellS3 HS.out Tryd.schashes rfl rfl rfl (pl_2 _ _ _ _ _ _) ?_) | (refine getS0 HS.out Tryd.aghash rfl rfl rfl (by first | exact hvA_size _ | rfl) ?_) | (refine getS1 HS.out Tryd.aghash rfl rfl rfl (by first | exact hvA_size _ | rfl) ?_) | (refine getS2 HS.out Tryd.aghash rfl rfl rfl (by first | exact hvA_size _ | rfl) ?_) | (refine getS3 HS.out Tryd.aghash rfl rfl rfl (by first | exact hvA_size _ | rfl) ?_) | (refine getfS0 HS.out Tryd.aghash rfl rfl rfl (mid := hcs root) (pl_root _ _ _ _ _ _) (hcs_length _) ?_) | (refine getfS1 HS.out Tryd.aghash rfl rfl rfl (mid := hcs root) (pl_root _ _ _ _ _ _) (hcs_length _) ?_) | (refine getfS2 HS.out Tryd.aghash rfl rfl rfl (mid := hcs root) (pl_root _ _ _ _ _ _) (hcs_length _) ?_) | (refine getfS3 HS.out Tryd.aghash rfl rfl rfl (mid := hcs root) (pl_root _ _ _ _ _ _) (hcs_length _) ?_))
    | (refine isStore rfl ?_; first | (refine setS0 HS.out Tryd.aghash rfl rfl rfl (by first | exact hvA_size _ | rfl) rfl (by first | exact hvA_size _ | rfl) (hvA_one _) ?_; intro w1 hs; clear HS; have HS := Lib.hid hs; clear hs) | (refine setS0 HS.out Tryd.aghash rfl rfl rfl (by first | exact hvA_size _ | rfl) (c := hvA zeroH) rfl (hvA_size _) (hvA_one _) ?_; intro w1 hs; clear HS; have HS := Lib.hid hs; clear hs) | (refine setS1 HS.out Tryd.aghash rfl rfl rfl (by first | exact hvA_size _ | rfl) rfl (by first | exact hvA_size _ | rfl) (hvA_one _) ?_; intro w1 hs; clear HS; have HS := Lib.hid hs; clear hs) | (refine setS1 HS.out Tryd.aghash rfl rfl rfl (by first | exact hvA_size _ | rfl) (c := hvA zeroH) rfl (hvA_size _) (hvA_one _) ?_; intro w1 hs; clear HS; have HS := Lib.hid hs; clear hs) | (refine setS2 HS.out Tryd.aghash rfl rfl rfl (by first | exact hvA_size _ | rfl) rfl (by first | exact hvA_size _ | rfl) (hvA_one _) ?_; intro w1 hs; clear HS; have HS := Lib.hid hs; clear hs) | (refine setS2 HS.out Tryd.aghash rfl rfl rfl (by first | exact hvA_size _ | rfl) (c := hvA zeroH) rfl (hvA_size _) (hvA_one _) ?_; intro w1 hs; clear HS; have HS := Lib.hid hs; clear hs) | (refine setS3 HS.out Tryd.aghash rfl rfl rfl (by first | exact hvA_size _ | rfl) rfl (by first | exact hvA_size _ | rfl) (hvA_one _) ?_; intro w1 hs; clear HS; have HS := Lib.hid hs; clear hs) | (refine setS3 HS.out Tryd.aghash rfl rfl rfl (by first | exact hvA_size _ | rfl) (c := hvA zeroH) rfl (hvA_size _) (hvA_one _) ?_; intro w1 hs; clear HS; have HS := Lib.hid hs; clear hs)))
        refine (HIN.out _ HS.out.kp root).mono ?_
        rintro e w1 ⟨rfl, k1⟩
        have HS := Lib.hid (HS.out.call k1)
        clear k1
        rw [HV.out]
        go_wp2_with (first
            | (refine isLoad rfl ?_; first | (refine cellS0 HS.out Tryd.scint rfl rfl rfl (pl_0 _ _ _ _ _ _) ?_) | (refine cellS0 HS.out Tryd.scint rfl rfl rfl (pl_1 _ _ _ _ _ _) ?_) | (refine cellS0 HS.out Tryd.schashes rfl rfl rfl (pl_2 _ _ _ _ _ _) ?_) | (refine cellS1 HS.out Tryd.scint rfl rfl rfl (pl_0 _ _ _ _ _ _) ?_) | (refine cellS1 HS.out Tryd.scint rfl rfl rfl (pl_1 _ _ _ _ _ _) ?_) | (refine cellS1 HS.out Tryd.schashes rfl rfl rfl (pl_2 _ _ _ _ _ _) ?_) | (refine cellS2 HS.out Tryd.scint rfl rfl rfl (pl_0 _ _ _ _ _ _) ?_) | (refine cellS2 HS.out Tryd.scint rfl rfl rfl (pl_1 _ _ _ _ _ _) ?_) | (refine cellS2 HS.out Tryd.schashes rfl rfl rfl (pl_2 _ _ _ _ _ _) ?_) | (refine cellS3 HS.out Tryd.scint rfl rfl rfl (pl_0 _ _ _ _ _ _) ?_) | (refine cellS3 HS.out Tryd.scint rfl rfl rfl (pl_1 _ _ _ _ _ _) ?_) | (refine cellS3 HS.out Tryd.schashes rfl rfl rfl (pl_2 _ _ _ _ _ _) ?_) | (refine getS0 HS.out Tryd.aghash rfl rfl rfl (by first | exact hvA_size _ | rfl) ?_) | (refine getS1 HS.out Tryd.aghash rfl rfl rfl (by first | exact hvA_size _ | rfl) ?_) | (refine getS2 HS.out Tryd.aghash rfl rfl rfl (by first | exact hvA_size _ | rfl) ?_) | (refine getS3 HS.out Tryd.aghash rfl rfl rfl (by first | exact hvA_size _ | rfl) ?_) | (refine getfS0 HS.out Tryd.aghash rfl rfl rfl (mid := hcs root) (pl_root _ _ _ _ _ _) (hcs_length _) ?_) | (refine getfS1 HS.out Tryd.aghash rfl rfl rfl (mid := hcs root) (pl_root _ _ _ _ _ _) (hcs_length _) ?_) | (refine getfS2 HS.out Tryd.aghash rfl rfl rfl (mid := hcs root) (pl_root _ _ _ _ _ _) (hcs_length _) ?_) | (refine getfS3 HS.out Tryd.aghash rfl rfl rfl (mid := hcs root) (pl_root _ _ _ _ _ _) (hcs_length _) ?_))
            | (refine isStore rfl ?_; first | (refine setS0 HS.out Tryd.aghash rfl rfl rfl (by first | exact hvA_size _ | rfl) rfl (by first | exact hvA_size _ | rfl) (hvA_one _) ?_; intro w1 hs; clear HS; have HS := Lib.hid hs; clear hs) | (refine setS0 HS.out Tryd.aghash rfl rfl rfl (by first | exact hvA_size _ | rfl) (c := hvA zeroH) rfl (hvA_size _) (hvA_one _) ?_; intro w1 hs; clear HS; have HS := Lib.hid hs; clear hs) | (refine setS1 HS.out Tryd.aghash rfl rfl rfl (by first | exact hvA_size _ | rfl) rfl (by first | exact hvA_size _ | rfl) (hvA_one _) ?_; intro w1 hs; clear HS; have HS := Lib.hid hs; clear hs) | (refine setS1 HS.out Tryd.aghash rfl rfl rfl (by first | exact hvA_size _ | rfl) (c := hvA zeroH) rfl (hvA_size _) (hvA_one _) ?_; intro w1 hs; clear HS; have HS := Lib.hid hs; clear hs) | (refine setS2 HS.out Tryd.aghash rfl rfl rfl (by first | exact hvA_size _ | rfl) rfl (by first | exact hvA_size _ | rfl) (hvA_one _) ?_; intro w1 hs; clear HS; have HS := Lib.hid hs; clear hs) | (refine setS2 HS.out Tryd.aghash rfl rfl rfl (by first | exact hvA_size _ | rfl) (c := hvA zeroH) rfl (hvA_size _) (hvA_one _) ?_; intro w1 hs; clear HS; have HS := Lib.hid hs; clear hs) | (refine setS3 HS.out Tryd.aghash rfl rfl rfl (by first | exact hvA_size _ | rfl) rfl (by first | exact hvA_size _ | rfl) (hvA_one _) ?_; intro w1 hs; clear HS; have HS := Lib.hid hs; clear hs) | (refine setS3 HS.out Tryd.aghash rfl rfl rfl (by first | exact hvA_size _ | rfl) (c := hvA zeroH) rfl (hvA_size _) (hvA_one _) ?_; intro w1 hs; clear HS; have HS := Lib.hid hs; clear hs)))
        refine (HIN.out _ HS.out.kp h).mono ?_
        rintro e w1 ⟨rfl, k1⟩
        have HS := Lib.hid (HS.out.call k1)
        clear k1
        rw [HV2.out]
        go_wp2_with (first
            | (refine isLoad rfl ?_; first | (refine cellS0 HS.out Tryd.scint rfl rfl rfl (pl_0 _ _ _ _ _ _) ?_) | (refine cellS0 HS.out Tryd.scint rfl rfl rfl (pl_1 _ _ _ _ _ _) ?_) | (refine cellS0 HS.out Tryd.schashes rfl rfl rfl (pl_2 _ _ _ _ _ _) ?_) | (refine cellS1 HS.out Tryd.scint rfl rfl rfl (pl_0 _ _ _ _ _ _) ?_) | (refine cellS1 HS.out Tryd.scint rfl rfl rfl (pl_1 _ _ _ _ _ _) ?_) | (refine cellS1 HS.out Tryd.schashes rfl rfl rfl (pl_2 _ _ _ _ _ _) ?_) | (refine cellS2 HS.out Tryd.scint rfl rfl rfl (pl_0 _ _ _ _ _ _) ?_) | (refine cellS2 HS.out Tryd.scint rfl rfl rfl (pl_1 _ _ _ _ _ _) ?_) | (refine cellS2 HS.out Tryd.schashes rfl rfl rfl (pl_2 _ _ _ _ _ _) ?_) | (refine cellS3 HS.out Tryd.scint rfl rfl rfl (pl_0 _ _ _ _ _ _) ?_) | (refine cellS3 HS.out Tryd.scint rfl rfl rfl (pl_1 _ _ _ _ _ _) ?_) | (refine cellS3 HS.out Tryd.schashes rfl rfl rfl (pl_2 _ _ _ _ _ _) ?_) | (refine getS0 HS.out Tryd.aghash rfl rfl rfl (by first | exact hvA_size _ | rfl) ?_) | (refine getS1 HS.out Tryd.aghash rfl rfl rfl (by first | exact hvA_size _ | rfl) ?_) | (refine getS2 HS.out Tryd.aghash rfl rfl rfl (by first | exact hvA_size _ | rfl) ?_) | (refine getS3 HS.out Tryd.aghash rfl rfl rfl (by first | exact hvA_size _ | rfl) ?_) | (refine getfS0 HS.out Tryd.aghash rfl rfl rfl (mid := hcs root) (pl_root _ _ _ _ _ _) (hcs_length _) ?_) | (refine getfS1 HS.out Tryd.aghash rfl rfl rfl (mid := hcs root) (pl_root _ _ _ _ _ _) (hcs_length _) ?_) | (refine getfS2 HS.out Tryd.aghash rfl rfl rfl (mid := hcs root) (pl_root _ _ _ _ _ _) (hcs_length _) ?_) | (refine getfS3 HS.out Tryd.aghash rfl rfl rfl (mid := hcs root) (pl_root _ _ _ _ _ _) (hcs_length _) ?_))
            | (refine isStore rfl ?_; first | (refine setS0 HS.out Tryd.aghash rfl rfl rfl (by first | exact hvA_size _ | rfl) rfl (by first | exact hvA_size _ | rfl) (hvA_one _) ?_; intro w1 hs; clear HS; have HS := Lib.hid hs; clear hs) | (refine setS0 HS.out Tryd.aghash rfl rfl rfl (by first | exact hvA_size _ | rfl) (c := hvA zeroH) rfl (hvA_size _) (hvA_one _) ?_; intro w1 hs; clear HS; have HS := Lib.hid hs; clear hs) | (refine setS1 HS.out Tryd.aghash rfl rfl rfl (by first | exact hvA_size _ | rfl) rfl (by first | exact hvA_size _ | rfl) (hvA_one _) ?_; intro w1 hs; clear HS; have HS := Lib.hid hs; clear hs) | (refine setS1 HS.out Tryd.aghash rfl rfl rfl (by first | exact hvA_size _ | rfl) (c := hvA zeroH) rfl (hvA_size _) (hvA_one _) ?_; intro w1 hs; clear HS; have HS := Lib.hid hs; clear hs) | (refine setS2 HS.out Tryd.aghash rfl rfl rfl (by first | exact hvA_size _ | rfl) rfl (by first | exact hvA_size _ | rfl) (hvA_one _) ?_; intro w1 hs; clear HS; have HS := Lib.hid hs; clear hs) | (refine setS2 HS.out Tryd.aghash rfl rfl rfl (by first | exact hvA_size _ | rfl) (c := hvA zeroH) rfl (hvA_size _) (hvA_one _) ?_; intro w1 hs; clear HS; have HS := Lib.hid hs; clear hs) | (refine setS3 HS.out Tryd.aghash rfl rfl rfl (by first | exact hvA_size _ | rfl) rfl (by first | exact hvA_size _ | rfl) (hvA_one _) ?_; intro w1 hs; clear HS; have HS := Lib.hid hs; clear hs) | (refine setS3 HS.out Tryd.aghash rfl rfl rfl (by first | exact hvA_size _ | rfl) (c := hvA zeroH) rfl (hvA_size _) (hvA_one _) ?_; intro w1 hs; clear HS; have HS := Lib.hid hs; clear hs)))
        refine (awake8_any _ (HL.out.below HS.out.kp) (Nat.le_trans h2 HS.out.kp.size)).mono ?_
        rintro e w9 ⟨rfl, k9⟩
        have K9 := Lib.hid (HS.out.kp.trans k9 (by simp))
        clear k9
        go_wp2
        go_ret
        exact ⟨rfl, K9.out⟩
      · have hd : decide (h = root) = false := decide_eq_false hro
        have HV := Lib.hid (show inV root (some h) = 22 from if_neg hro)
        have HV2 := Lib.hid (show inV h (some h) = 0 from if_pos rfl)
        clear hro
        go_wp2_with (first
    | (refine isLoad rfl ?_; first | (refine cellS0 HS.out Tryd.scint rfl rfl rfl (pl_0 _ _ _ _ _ _) ?_) | (refine cellS0 HS.out Tryd.scint rfl rfl rfl (pl_1 _ _ _ _ _ _) ?_) | (refine cellS0 HS.out Tryd.schashes rfl rfl rfl (pl_2 _ _ _ _ _ _) ?_) | (refine cellS1 HS.out Tryd.scint rfl rfl rfl (pl_0 _ _ _ _ _ _) ?_) | (refine cellS1 HS.out Tryd.scint rfl rfl rfl (pl_1 _ _ _ _ _ _) ?_) | (refine cellS1 HS.out Tryd.schashes rfl rfl rfl (pl_2 _ _ _ _ _ _) ?_) | (refine cellS2 HS.out Tryd.scint rfl rfl rfl (pl_0 _ _ _ _ _ _) ?_) | (refine cellS2 HS.out Tryd.scint rfl rfl rfl (pl_1 _ _ _ _ _ _) ?_) | (refine cellS2 HS.out Tryd.schashes rfl rfl rfl (pl_2 _ _ _ _ _ _) ?_) | (refine cellS3 HS.out Tryd.scint rfl rfl rfl (pl_0 _ _ _ _ _ _) ?_) | (refine cellS3 HS.out Tryd.scint rfl rfl rfl (pl_1 _ _ _ _ _ _) ?_) | (refine cellS3 HS.out Tryd.schashes rfl rfl rfl (pl_2 _ _ _ _ _ _) ?_) | (refine getS0 HS.out Tryd.aghash rfl rfl rfl (by first | exact hvA_size _ | rfl) ?_) | (refine getS1 HS.out Tryd.aghash rfl rfl rfl (by first | exact hvA_size _ | rfl) ?_) | (refine getS2 HS.out Tryd.aghash rfl rfl rfl (by first | exact hvA_size _ | rfl) ?_) | (refine getS3 HS.out Tryd.aghash rfl rfl rfl (by first | exact hvA_size _ | rfl) ?_) | (refine getfS0 HS.out Tryd.aghash rfl rfl rfl (mid := hcs root) (pl_root _ _ _ _ _ _) (hcs_length _) ?_) | (refine getfS1 HS.out Tryd.aghash rfl rfl rfl (mid := hcs root) (pl_root _ _ _ _ _ _) (hcs_length _) ?_) | (refine getfS2 HS.out Tryd.aghash rfl rfl rfl (mid := hcs root) (pl_root _ _ _ _ _ _) (hcs_length _) ?_) | (refine getfS3 HS.out Tryd.aghash rfl rfl rfl (mid := hcs root) (pl_root _ _ _ _ _ _) (hcs_length _) ?_))
    | (refine isStore rfl ?_; first | (refine setS0 HS.out Tryd.aghash rfl rfl rfl (by first | exact hvA_size _ | rfl) rfl (by first | exact hvA_size _ | rfl) (hvA_one _) ?_; intro w1 hs; clear HS; have HS := Lib.hid hs; clear hs) | (refine setS0 HS.out Tryd.aghash rfl rfl rfl (by first | exact hvA_size _ | rfl) (c := hvA zeroH) rfl (hvA_size _) (hvA_one _) ?_; intro w1 hs; clear HS; have HS := Lib.hid hs; clear hs) | (refine setS1 HS.out Tryd.aghash rfl rfl rfl (by first | exact hvA_size _ | rfl) rfl (by first | exact hvA_size _ | rfl) (hvA_one _) ?_; intro w1 hs; clear HS; have HS := Lib.hid hs; clear hs) | (refine setS1 HS.out Tryd.aghash rfl rfl rfl (by first | exact hvA_size _ | rfl) (c := hvA zeroH) rfl (hvA_size _) (hvA_one _) ?_; intro w1 hs; clear HS; have HS := Lib.hid hs; clear hs) | (refine setS2 HS.out Tryd.aghash rfl rfl rfl (by first | exact hvA_size _ | rfl) rfl (by first | exact hvA_size _ | rfl) (hvA_one _) ?_; intro w1 hs; clear HS; have HS := Lib.hid hs; clear hs) | (refine setS2 HS.out Tryd.aghash rfl rfl rfl (by first | exact hvA_size _ | rfl) (c := hvA zeroH) rfl (hvA_size _) (hvA_one _) ?_; intro w1 hs; clear HS; have HS := Lib.hid hs; clear hs) | (refine setS3 HS.out Tryd.aghash rfl rfl rfl (by first | exact hvA_size _ | rfl) rfl (by first | exact hvA_size _ | rfl) (hvA_one _) ?_; intro w1 hs; clear HS; have HS := Lib.hid hs; clear hs) | (refine setS3 HS.out Tryd.aghash rfl rfl rfl (by first | exact hvA_size _ | rfl) (c := hvA zeroH) rfl (hvA_size _) (hvA_one _) ?_; intro w1 hs; clear HS; have HS := Lib.hid hs; clear hs)))
        refine (HIN.out _ HS.out.kp root).mono ?_
        rintro e w1 ⟨rfl, k1⟩
        have HS := Lib.hid (HS.out.call k1)
        clear k1
        rw [HV.out]
        go_wp2_with (first
            | (refine isLoad rfl ?_; first | (refine cellS0 HS.out Tryd.scint rfl rfl rfl (pl_0 _ _ _ _ _ _) ?_) | (refine cellS0 HS.out Tryd.scint rfl rfl rfl (pl_1 _ _ _ _ _ _) ?_) | (refine cellS0 HS.out Tryd.schashes rfl rfl rfl (pl_2 _ _ _ _ _ _) ?_) | (refine cellS1 HS.out Tryd.scint rfl rfl rfl (pl_0 _ _ _ _ _ _) ?_) | (refine cellS1 HS.out Tryd.scint rfl rfl rfl (pl_1 _ _ _ _ _ _) ?_) | (refine cellS1 HS.out Tryd.schashes rfl rfl rfl (pl_2 _ _ _ _ _ _) ?_) | (refine cellS2 HS.out Tryd.scint rfl rfl rfl (pl_0 _ _ _ _ _ _) ?_) | (refine cellS2 HS.out Tryd.scint rfl rfl rfl (pl_1 _ _ _ _ _ _) ?_) | (refine cellS2 HS.out Tryd.schashes rfl rfl rfl (pl_2 _ _ _ _ _ _) ?_) | (refine cellS3 HS.out Tryd.scint rfl rfl rfl (pl_0 _ _ _ _ _ _) ?_) | (refine cellS3 HS.out Tryd.scint rfl rfl rfl (pl_1 _ _ _ _ _ _) ?_) | (refine cellS3 HS.out Tryd.schashes rfl rfl rfl (pl_2 _ _ _ _ _ _) ?_) | (refine getS0 HS.out Tryd.aghash rfl rfl rfl (by first | exact hvA_size _ | rfl) ?_) | (refine getS1 HS.out Tryd.aghash rfl rfl rfl (by first | exact hvA_size _ | rfl) ?_) | (refine getS2 HS.out Tryd.aghash rfl rfl rfl (by first | exact hvA_size _ | rfl) ?_) | (refine getS3 HS.out Tryd.aghash rfl rfl rfl (by first | exact hvA_size _ | rfl) ?_) | (refine getfS0 HS.out Tryd.aghash rfl rfl rfl (mid := hcs root) (pl_root _ _ _ _ _ _) (hcs_length _) ?_) | (refine getfS1 HS.out Tryd.aghash rfl rfl rfl (mid := hcs root) (pl_root _ _ _ _ _ _) (hcs_length _) ?_) | (refine getfS2 HS.out Tryd.aghash rfl rfl rfl (mid := hcs root) (pl_root _ _ _ _ _ _) (hcs_length _) ?_) | (refine getfS3 HS.out Tryd.aghash rfl rfl rfl (mid := hcs root) (pl_root _ _ _ _ _ _) (hcs_length _) ?_))
            | (refine isStore rfl ?_; first | (refine setS0 HS.out Tryd.aghash rfl rfl rfl (by first | exact hvA_size _ | rfl) rfl (by first | exact hvA_size _ | rfl) (hvA_one _) ?_; intro w1 hs; clear HS; have HS := Lib.hid hs; clear hs) | (refine setS0 HS.out Tryd.aghash rfl rfl rfl (by first | exact hvA_size _ | rfl) (c := hvA zeroH) rfl (hvA_size _) (hvA_one _) ?_; intro w1 hs; clear HS; have HS := Lib.hid hs; clear hs) | (refine setS1 HS.out Tryd.aghash rfl rfl rfl (by first | exact hvA_size _ | rfl) rfl (by first | exact hvA_size _ | rfl) (hvA_one _) ?_; intro w1 hs; clear HS; have HS := Lib.hid hs; clear hs) | (refine setS1 HS.out Tryd.aghash rfl rfl rfl (by first | exact hvA_size _ | rfl) (c := hvA zeroH) rfl (hvA_size _) (hvA_one _) ?_; intro w1 hs; clear HS; have HS := Lib.hid hs; clear hs) | (refine setS2 HS.out Tryd.aghash rfl rfl rfl (by first | exact hvA_size _ | rfl) rfl (by first | exact hvA_size _ | rfl) (hvA_one _) ?_; intro w1 hs; clear HS; have HS := Lib.hid hs; clear hs) | (refine setS2 HS.out Tryd.aghash rfl rfl rfl (by first | exact hvA_size _ | rfl) (c := hvA zeroH) rfl (hvA_size _) (hvA_one _) ?_; intro w1 hs; clear HS; have HS := Lib.hid hs; clear hs) | (refine setS3 HS.out Tryd.aghash rfl rfl rfl (by first | exact hvA_size _ | rfl) rfl (by first | exact hvA_size _ | rfl) (hvA_one _) ?_; intro w1 hs; clear HS; have HS := Lib.hid hs; clear hs) | (refine setS3 HS.out Tryd.aghash rfl rfl rfl (by first | exact hvA_size _ | rfl) (c := hvA zeroH) rfl (hvA_size _) (hvA_one _) ?_; intro w1 hs; clear HS; have HS := Lib.hid hs; clear hs)))
        refine (HIN.out _ HS.out.kp h).mono ?_
        rintro e w1 ⟨rfl, k1⟩
        have HS := Lib.hid (HS.out.call k1)
        clear k1
        rw [HV2.out]
        go_wp2_with (first
            | (refine isLoad rfl ?_; first | (refine cellS0 HS.out Tryd.scint rfl rfl rfl (pl_0 _ _ _ _ _ _) ?_) | (refine cellS0 HS.out Tryd.scint rfl rfl rfl (pl_1 _ _ _ _ _ _) ?_) | (refine cellS0 HS.out Tryd.schashes rfl rfl rfl (pl_2 _ _ _ _ _ _) ?_) | (refine cellS1 HS.out Tryd.scint rfl rfl rfl (pl_0 _ _ _ _ _ _) ?_) | (refine cellS1 HS.out Tryd.scint rfl rfl rfl (pl_1 _ _ _ _ _ _) ?_) | (refine cellS1 HS.out Tryd.schashes rfl rfl rfl (pl_2 _ _ _ _ _ _) ?_) | (refine cellS2 HS.out Tryd.scint rfl rfl rfl (pl_0 _ _ _ _ _ _) ?_) | (refine cellS2 HS.out Tryd.scint rfl rfl rfl (pl_1 _ _ _ _ _ _) ?_) | (refine cellS2 HS.out Tryd.schashes rfl rfl rfl (pl_2 _ _ _ _ _ _) ?_) | (refine cellS3 HS.out Tryd.scint rfl rfl rfl (pl_0 _ _ _ _ _ _) ?_) | (refine cellS3 HS.out Tryd.scint rfl rfl rfl (pl_1 _ _ _ _ _ _) ?_) | (refine cellS3 HS.out Tryd.schashes rfl rfl rfl (pl_2 _ _ _ _ _ _) ?_) | (refine getS0 HS.out Tryd.aghash rfl rfl rfl (by first | exact hvA_size _ | rfl) ?_) | (refine getS1 HS.out Tryd.aghash rfl rfl rfl (by first | exact hvA_size _ | rfl) ?_) | (refine getS2 HS.out Tryd.aghash rfl rfl rfl (by first | exact hvA_size _ | rfl) ?_) | (refine getS3 HS.out Tryd.aghash rfl rfl rfl (by first | exact hvA_size _ | rfl) ?_) | (refine getfS0 HS.out Tryd.aghash rfl rfl rfl (mid := hcs root) (pl_root _ _ _ _ _ _) (hcs_length _) ?_) | (refine getfS1 HS.out Tryd.aghash rfl rfl rfl (mid := hcs root) (pl_root _ _ _ _ _ _) (hcs_length _) ?_) | (refine getfS2 HS.out Tryd.aghash rfl rfl rfl (mid := hcs root) (pl_root _ _ _ _ _ _) (hcs_length _) ?_) | (refine getfS3 HS.out Tryd.aghash rfl rfl rfl (mid := hcs root) (pl_root _ _ _ _ _ _) (hcs_length _) ?_))
            | (refine isStore rfl ?_; first | (refine setS0 HS.out Tryd.aghash rfl rfl rfl (by first | exact hvA_size _ | rfl) rfl (by first | exact hvA_size _ | rfl) (hvA_one _) ?_; intro w1 hs; clear HS; have HS := Lib.hid hs; clear hs) | (refine setS0 HS.out Tryd.aghash rfl rfl rfl (by first | exact hvA_size _ | rfl) (c := hvA zeroH) rfl (hvA_size _) (hvA_one _) ?_; intro w1 hs; clear HS; have HS := Lib.hid hs; clear hs) | (refine setS1 HS.out Tryd.aghash rfl rfl rfl (by first | exact hvA_size _ | rfl) rfl (by first | exact hvA_size _ | rfl) (hvA_one _) ?_; intro w1 hs; clear HS; have HS := Lib.hid hs; clear hs) | (refine setS1 HS.out Tryd.aghash rfl rfl rfl (by first | exact hvA_size _ | rfl) (c := hvA zeroH) rfl (hvA_size _) (hvA_one _) ?_; intro w1 hs; clear HS; have HS := Lib.hid hs; clear hs) | (refine setS2 HS.out Tryd.aghash rfl rfl rfl (by first | exact hvA_size _ | rfl) rfl (by first | exact hvA_size _ | rfl) (hvA_one _) ?_; intro w1 hs; clear HS; have HS := Lib.hid hs; clear hs) | (refine setS2 HS.out Tryd.aghash rfl rfl rfl (by first | exact hvA_size _ | rfl) (c := hvA zeroH) rfl (hvA_size _) (hvA_one _) ?_; intro w1 hs; clear HS; have HS := Lib.hid hs; clear hs) | (refine setS3 HS.out Tryd.aghash rfl rfl rfl (by first | exact hvA_size _ | rfl) rfl (by first | exact hvA_size _ | rfl) (hvA_one _) ?_; intro w1 hs; clear HS; have HS := Lib.hid hs; clear hs) | (refine setS3 HS.out Tryd.aghash rfl rfl rfl (by first | exact hvA_size _ | rfl) (c := hvA zeroH) rfl (hvA_size _) (hvA_one _) ?_; intro w1 hs; clear HS; have HS := Lib.hid hs; clear hs)))
        refine (awake8_any _ (HL.out.below HS.out.kp) (Nat.le_trans h2 HS.out.kp.size)).mono ?_
        rintro e w9 ⟨rfl, k9⟩
        have K9 := Lib.hid (HS.out.kp.trans k9 (by simp))
        clear k9
        go_wp2
        go_ret
        exact ⟨rfl, K9.out⟩
end Go.Proofs.YtkjdnpalafldhaaDoor.proofLeads
