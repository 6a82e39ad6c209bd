/-
  ProofLeads, in parts. (Printed by gen_lawleads.py.)
-/
import Derived.Test.YtkjdnpalafldhaaDoorPrf3
import Derived.Test.YtkjdnpalafldhaaDoorPrf9
import Derived.Test.YtkjdnpalafldhaaDoorPrf12
import Derived.Test.YtkjdnpalafldhaaDoorAwake8
import Derived.Test.YtkjdnpalafldhaaDoorLeadsP
namespace Go.Proofs.YtkjdnpalafldhaaDoor.proofLeads
open Go.ChangeShapes Go.WideShapes Go.ChangeAt Go.RowKit Go.Proofs.YtkjdnpalafldhaaDoor

set_option maxRecDepth 100000 in
set_option maxHeartbeats 4000000 in
theorem walk_ne (leaf : Hsh) (I N : Nat) (a : Option Addr) (c : Nat) (l : List Hsh) (root : Hsh) (w : World) (hr : Rd w a l.length c 32 (hsc l)) (hl : l.length ≤ 80) (hN : N ≤ 1152921504606846976) (hi : I < N) (hk : l.length ≠ (sideL I (N - 1)).length) (hL : Laid w) (h2 : 2 ≤ w.heap.size) :
    Calls Tryd.prog 8 #[hv leaf, .agg (plA I N a l.length c root)] w fun e w' => e = .returned (.bool true) ∧ Kp [] w w' := by
  have HL := Lib.hid hL
  have HR := Lib.hid hr
  have HLD := Lib.hid (fun W (k : Kp [] w W) => lead_good leaf I N l a c W (hr.below k) hi hN (hL.below k) (Nat.le_trans h2 k.size))
  have HLN := Lib.hid (fun W => length_good I N W hi hN)
  have HSD := Lib.hid (fun W => refSides_all N I N W (Nat.le_refl _) (by omega) hN hi)
  have HIN := Lib.hid (fun W (k : Kp [] w W) (rt : Hsh) => in_good leaf rt I N l a c W (hr.below k) hi hN (hL.below k) (Nat.le_trans h2 k.size))
  rw [leadF_is l I (N - 1) leaf (by omega)] at HLD HIN
  rw [sideF_is N I N (Nat.le_refl _) hi (by omega)] at HSD
  have hsl := sideL_le I (N - 1) (by omega) (by omega)
  obtain ⟨sd, hsd⟩ : ∃ s, s = sideL I (N - 1) := ⟨_, rfl⟩
  rw [← hsd] at HLD HIN HSD HLN hk hsl
  rw [if_neg hk] at HLD HIN
  have hleq : ((l.length : Int) == (sd.length : Int)) = false := by rw [beq_eq_false_iff_ne]; omega
  have hz : ∀ w, (Op.equalIn 10000 38 (.agg (hvA zeroH)) (.agg #[.int .u8 0, .int .u8 0, .int .u8 0, .int .u8 0, .int .u8 0, .int .u8 0, .int .u8 0, .int .u8 0, .int .u8 0, .int .u8 0, .int .u8 0, .int .u8 0, .int .u8 0, .int .u8 0, .int .u8 0, .int .u8 0, .int .u8 0, .int .u8 0, .int .u8 0, .int .u8 0, .int .u8 0, .int .u8 0, .int .u8 0, .int .u8 0, .int .u8 0, .int .u8 0, .int .u8 0, .int .u8 0, .int .u8 0, .int .u8 0, .int .u8 0, .int .u8 0])).run Tryd.prog w = .ok true w := fun w => by have := Tryd.equalHash w zeroH zeroH; rw [show decide (zeroH = zeroH) = true by simp] at this; exact this
  have hgt : Tryd.prog.eqGuardType Tryd.prog.depth 38 = false := Tryd.eqGuardType38
  have HS := Lib.hid (St.start [] w)
  have hI0 : ¬ (I : Int) < 0 := by omega
  have hIN : ¬ (I : Int) ≥ (N : Int) := by omega
  have hl1 : ¬ (l.length : Int) > 80 := by omega
  have hN1 : ¬ (N : Int) > 1152921504606846976 := by omega
  have tokN0 : True := trivial
  have tokB0 : True := trivial
  have tokB1 : True := trivial
  clear hL hr hk hsd
  go_enter Tryd.func8, Tryd.ntmps8
  go_wp2_with (first
    | (have _t := tokB0; refine boxS HS.out rfl rfl rfl (c := hvA leaf) rfl ?_; clear tokB0; intro g2 w1 hs; clear HS; have HS := Lib.hid hs; clear hs)
    | (have _t := tokB1; refine boxS HS.out rfl rfl rfl (c := plA I N a l.length c root) rfl ?_; clear tokB1; intro g3 w1 hs; clear HS; have HS := Lib.hid hs; clear hs)
    | (have _t := tokN0; refine newS HS.out Tryd.zhash rfl rfl (c := hvA zeroH) rfl ?_; clear tokN0; intro g5 w1 hs; clear HS; have HS := Lib.hid hs; clear hs)
    | (refine isLoad rfl ?_; first | (refine cellS0 HS.out Tryd.scint rfl rfl rfl (pl_0 _ _ _ _ _ _) ?_) | (refine cellS0 HS.out Tryd.scint rfl rfl rfl (pl_1 _ _ _ _ _ _) ?_) | (refine cellS0 HS.out Tryd.schashes rfl rfl rfl (pl_2 _ _ _ _ _ _) ?_) | (refine cellS1 HS.out Tryd.scint rfl rfl rfl (pl_0 _ _ _ _ _ _) ?_) | (refine cellS1 HS.out Tryd.scint rfl rfl rfl (pl_1 _ _ _ _ _ _) ?_) | (refine cellS1 HS.out Tryd.schashes rfl rfl rfl (pl_2 _ _ _ _ _ _) ?_) | (refine cellS2 HS.out Tryd.scint rfl rfl rfl (pl_0 _ _ _ _ _ _) ?_) | (refine cellS2 HS.out Tryd.scint rfl rfl rfl (pl_1 _ _ _ _ _ _) ?_) | (refine cellS2 HS.out Tryd.schashes rfl rfl rfl (pl_2 _ _ _ _ _ _) ?_) | (refine getS0 HS.out Tryd.aghash rfl rfl rfl (by first | exact hvA_size _ | rfl) ?_) | (refine getS1 HS.out Tryd.aghash rfl rfl rfl (by first | exact hvA_size _ | rfl) ?_) | (refine getS2 HS.out Tryd.aghash rfl rfl rfl (by first | exact hvA_size _ | rfl) ?_) | (refine getfS0 HS.out Tryd.aghash rfl rfl rfl (mid := hcs root) (pl_root _ _ _ _ _ _) (hcs_length _) ?_) | (refine getfS1 HS.out Tryd.aghash rfl rfl rfl (mid := hcs root) (pl_root _ _ _ _ _ _) (hcs_length _) ?_) | (refine getfS2 HS.out Tryd.aghash rfl rfl rfl (mid := hcs root) (pl_root _ _ _ _ _ _) (hcs_length _) ?_))
    | (refine isStore rfl ?_; first | (refine setS0 HS.out Tryd.aghash rfl rfl rfl (by first | exact hvA_size _ | rfl) rfl (by first | exact hvA_size _ | rfl) (hvA_one _) ?_; intro w1 hs; clear HS; have HS := Lib.hid hs; clear hs) | (refine setS0 HS.out Tryd.aghash rfl rfl rfl (by first | exact hvA_size _ | rfl) (c := hvA zeroH) rfl (hvA_size _) (hvA_one _) ?_; intro w1 hs; clear HS; have HS := Lib.hid hs; clear hs) | (refine setS1 HS.out Tryd.aghash rfl rfl rfl (by first | exact hvA_size _ | rfl) rfl (by first | exact hvA_size _ | rfl) (hvA_one _) ?_; intro w1 hs; clear HS; have HS := Lib.hid hs; clear hs) | (refine setS1 HS.out Tryd.aghash rfl rfl rfl (by first | exact hvA_size _ | rfl) (c := hvA zeroH) rfl (hvA_size _) (hvA_one _) ?_; intro w1 hs; clear HS; have HS := Lib.hid hs; clear hs) | (refine setS2 HS.out Tryd.aghash rfl rfl rfl (by first | exact hvA_size _ | rfl) rfl (by first | exact hvA_size _ | rfl) (hvA_one _) ?_; intro w1 hs; clear HS; have HS := Lib.hid hs; clear hs) | (refine setS2 HS.out Tryd.aghash rfl rfl rfl (by first | exact hvA_size _ | rfl) (c := hvA zeroH) rfl (hvA_size _) (hvA_one _) ?_; intro w1 hs; clear HS; have HS := Lib.hid hs; clear hs)))
  refine (HLD.out _ HS.out.kp).mono ?_
  rintro e w1 ⟨rfl, k1⟩
  have HS := Lib.hid (HS.out.call k1)
  clear k1
  simp only [leadV, hcsA]
  go_wp2_with (first
      | (have _t := tokN0; refine newS HS.out Tryd.zhash rfl rfl (c := hvA zeroH) rfl ?_; clear tokN0; intro g5 w1 hs; clear HS; have HS := Lib.hid hs; clear hs)
      | (refine isLoad rfl ?_; first | (refine cellS0 HS.out Tryd.scint rfl rfl rfl (pl_0 _ _ _ _ _ _) ?_) | (refine cellS0 HS.out Tryd.scint rfl rfl rfl (pl_1 _ _ _ _ _ _) ?_) | (refine cellS0 HS.out Tryd.schashes rfl rfl rfl (pl_2 _ _ _ _ _ _) ?_) | (refine cellS1 HS.out Tryd.scint rfl rfl rfl (pl_0 _ _ _ _ _ _) ?_) | (refine cellS1 HS.out Tryd.scint rfl rfl rfl (pl_1 _ _ _ _ _ _) ?_) | (refine cellS1 HS.out Tryd.schashes rfl rfl rfl (pl_2 _ _ _ _ _ _) ?_) | (refine cellS2 HS.out Tryd.scint rfl rfl rfl (pl_0 _ _ _ _ _ _) ?_) | (refine cellS2 HS.out Tryd.scint rfl rfl rfl (pl_1 _ _ _ _ _ _) ?_) | (refine cellS2 HS.out Tryd.schashes rfl rfl rfl (pl_2 _ _ _ _ _ _) ?_) | (refine getS0 HS.out Tryd.aghash rfl rfl rfl (by first | exact hvA_size _ | rfl) ?_) | (refine getS1 HS.out Tryd.aghash rfl rfl rfl (by first | exact hvA_size _ | rfl) ?_) | (refine getS2 HS.out Tryd.aghash rfl rfl rfl (by first | exact hvA_size _ | rfl) ?_) | (refine getfS0 HS.out Tryd.aghash rfl rfl rfl (mid := hcs root) (pl_root _ _ _ _ _ _) (hcs_length _) ?_) | (refine getfS1 HS.out Tryd.aghash rfl rfl rfl (mid := hcs root) (pl_root _ _ _ _ _ _) (hcs_length _) ?_) | (refine getfS2 HS.out Tryd.aghash rfl rfl rfl (mid := hcs root) (pl_root _ _ _ _ _ _) (hcs_length _) ?_))
      | (refine isStore rfl ?_; first | (refine setS0 HS.out Tryd.aghash rfl rfl rfl (by first | exact hvA_size _ | rfl) rfl (by first | exact hvA_size _ | rfl) (hvA_one _) ?_; intro w1 hs; clear HS; have HS := Lib.hid hs; clear hs) | (refine setS0 HS.out Tryd.aghash rfl rfl rfl (by first | exact hvA_size _ | rfl) (c := hvA zeroH) rfl (hvA_size _) (hvA_one _) ?_; intro w1 hs; clear HS; have HS := Lib.hid hs; clear hs) | (refine setS1 HS.out Tryd.aghash rfl rfl rfl (by first | exact hvA_size _ | rfl) rfl (by first | exact hvA_size _ | rfl) (hvA_one _) ?_; intro w1 hs; clear HS; have HS := Lib.hid hs; clear hs) | (refine setS1 HS.out Tryd.aghash rfl rfl rfl (by first | exact hvA_size _ | rfl) (c := hvA zeroH) rfl (hvA_size _) (hvA_one _) ?_; intro w1 hs; clear HS; have HS := Lib.hid hs; clear hs) | (refine setS2 HS.out Tryd.aghash rfl rfl rfl (by first | exact hvA_size _ | rfl) rfl (by first | exact hvA_size _ | rfl) (hvA_one _) ?_; intro w1 hs; clear HS; have HS := Lib.hid hs; clear hs) | (refine setS2 HS.out Tryd.aghash rfl rfl rfl (by first | exact hvA_size _ | rfl) (c := hvA zeroH) rfl (hvA_size _) (hvA_one _) ?_; intro w1 hs; clear HS; have HS := Lib.hid hs; clear hs)))
  refine (HSD.out _).mono ?_
  rintro e w1 ⟨v, rfl, a7, c7, rfl, o7, f7, k7⟩
  have HS := Lib.hid (HS.out.addRow k7 o7 f7)
  clear o7 f7 k7
  go_wp2_with (first
      | (refine isLoad rfl ?_; first | (refine cellS0 HS.out Tryd.scint rfl rfl rfl (pl_0 _ _ _ _ _ _) ?_) | (refine cellS0 HS.out Tryd.scint rfl rfl rfl (pl_1 _ _ _ _ _ _) ?_) | (refine cellS0 HS.out Tryd.schashes rfl rfl rfl (pl_2 _ _ _ _ _ _) ?_) | (refine cellS1 HS.out Tryd.scint rfl rfl rfl (pl_0 _ _ _ _ _ _) ?_) | (refine cellS1 HS.out Tryd.scint rfl rfl rfl (pl_1 _ _ _ _ _ _) ?_) | (refine cellS1 HS.out Tryd.schashes rfl rfl rfl (pl_2 _ _ _ _ _ _) ?_) | (refine cellS2 HS.out Tryd.scint rfl rfl rfl (pl_0 _ _ _ _ _ _) ?_) | (refine cellS2 HS.out Tryd.scint rfl rfl rfl (pl_1 _ _ _ _ _ _) ?_) | (refine cellS2 HS.out Tryd.schashes rfl rfl rfl (pl_2 _ _ _ _ _ _) ?_) | (refine getS0 HS.out Tryd.aghash rfl rfl rfl (by first | exact hvA_size _ | rfl) ?_) | (refine getS1 HS.out Tryd.aghash rfl rfl rfl (by first | exact hvA_size _ | rfl) ?_) | (refine getS2 HS.out Tryd.aghash rfl rfl rfl (by first | exact hvA_size _ | rfl) ?_) | (refine getfS0 HS.out Tryd.aghash rfl rfl rfl (mid := hcs root) (pl_root _ _ _ _ _ _) (hcs_length _) ?_) | (refine getfS1 HS.out Tryd.aghash rfl rfl rfl (mid := hcs root) (pl_root _ _ _ _ _ _) (hcs_length _) ?_) | (refine getfS2 HS.out Tryd.aghash rfl rfl rfl (mid := hcs root) (pl_root _ _ _ _ _ _) (hcs_length _) ?_))
      | (refine isStore rfl ?_; first | (refine setS0 HS.out Tryd.aghash rfl rfl rfl (by first | exact hvA_size _ | rfl) rfl (by first | exact hvA_size _ | rfl) (hvA_one _) ?_; intro w1 hs; clear HS; have HS := Lib.hid hs; clear hs) | (refine setS0 HS.out Tryd.aghash rfl rfl rfl (by first | exact hvA_size _ | rfl) (c := hvA zeroH) rfl (hvA_size _) (hvA_one _) ?_; intro w1 hs; clear HS; have HS := Lib.hid hs; clear hs) | (refine setS1 HS.out Tryd.aghash rfl rfl rfl (by first | exact hvA_size _ | rfl) rfl (by first | exact hvA_size _ | rfl) (hvA_one _) ?_; intro w1 hs; clear HS; have HS := Lib.hid hs; clear hs) | (refine setS1 HS.out Tryd.aghash rfl rfl rfl (by first | exact hvA_size _ | rfl) (c := hvA zeroH) rfl (hvA_size _) (hvA_one _) ?_; intro w1 hs; clear HS; have HS := Lib.hid hs; clear hs) | (refine setS2 HS.out Tryd.aghash rfl rfl rfl (by first | exact hvA_size _ | rfl) rfl (by first | exact hvA_size _ | rfl) (hvA_one _) ?_; intro w1 hs; clear HS; have HS := Lib.hid hs; clear hs) | (refine setS2 HS.out Tryd.aghash rfl rfl rfl (by first | exact hvA_size _ | rfl) (c := hvA zeroH) rfl (hvA_size _) (hvA_one _) ?_; intro w1 hs; clear HS; have HS := Lib.hid hs; clear hs)))
  refine (HLN.out _).mono ?_
  rintro e w1 ⟨rfl, rfl⟩
  go_wp2_with (first
      | (refine isLoad rfl ?_; first | (refine cellS0 HS.out Tryd.scint rfl rfl rfl (pl_0 _ _ _ _ _ _) ?_) | (refine cellS0 HS.out Tryd.scint rfl rfl rfl (pl_1 _ _ _ _ _ _) ?_) | (refine cellS0 HS.out Tryd.schashes rfl rfl rfl (pl_2 _ _ _ _ _ _) ?_) | (refine cellS1 HS.out Tryd.scint rfl rfl rfl (pl_0 _ _ _ _ _ _) ?_) | (refine cellS1 HS.out Tryd.scint rfl rfl rfl (pl_1 _ _ _ _ _ _) ?_) | (refine cellS1 HS.out Tryd.schashes rfl rfl rfl (pl_2 _ _ _ _ _ _) ?_) | (refine cellS2 HS.out Tryd.scint rfl rfl rfl (pl_0 _ _ _ _ _ _) ?_) | (refine cellS2 HS.out Tryd.scint rfl rfl rfl (pl_1 _ _ _ _ _ _) ?_) | (refine cellS2 HS.out Tryd.schashes rfl rfl rfl (pl_2 _ _ _ _ _ _) ?_) | (refine getS0 HS.out Tryd.aghash rfl rfl rfl (by first | exact hvA_size _ | rfl) ?_) | (refine getS1 HS.out Tryd.aghash rfl rfl rfl (by first | exact hvA_size _ | rfl) ?_) | (refine getS2 HS.out Tryd.aghash rfl rfl rfl (by first | exact hvA_size _ | rfl) ?_) | (refine getfS0 HS.out Tryd.aghash rfl rfl rfl (mid := hcs root) (pl_root _ _ _ _ _ _) (hcs_length _) ?_) | (refine getfS1 HS.out Tryd.aghash rfl rfl rfl (mid := hcs root) (pl_root _ _ _ _ _ _) (hcs_length _) ?_) | (refine getfS2 HS.out Tryd.aghash rfl rfl rfl (mid := hcs root) (pl_root _ _ _ _ _ _) (hcs_length _) ?_))
      | (refine isStore rfl ?_; first | (refine setS0 HS.out Tryd.aghash rfl rfl rfl (by first | exact hvA_size _ | rfl) rfl (by first | exact hvA_size _ | rfl) (hvA_one _) ?_; intro w1 hs; clear HS; have HS := Lib.hid hs; clear hs) | (refine setS0 HS.out Tryd.aghash rfl rfl rfl (by first | exact hvA_size _ | rfl) (c := hvA zeroH) rfl (hvA_size _) (hvA_one _) ?_; intro w1 hs; clear HS; have HS := Lib.hid hs; clear hs) | (refine setS1 HS.out Tryd.aghash rfl rfl rfl (by first | exact hvA_size _ | rfl) rfl (by first | exact hvA_size _ | rfl) (hvA_one _) ?_; intro w1 hs; clear HS; have HS := Lib.hid hs; clear hs) | (refine setS1 HS.out Tryd.aghash rfl rfl rfl (by first | exact hvA_size _ | rfl) (c := hvA zeroH) rfl (hvA_size _) (hvA_one _) ?_; intro w1 hs; clear HS; have HS := Lib.hid hs; clear hs) | (refine setS2 HS.out Tryd.aghash rfl rfl rfl (by first | exact hvA_size _ | rfl) rfl (by first | exact hvA_size _ | rfl) (hvA_one _) ?_; intro w1 hs; clear HS; have HS := Lib.hid hs; clear hs) | (refine setS2 HS.out Tryd.aghash rfl rfl rfl (by first | exact hvA_size _ | rfl) (c := hvA zeroH) rfl (hvA_size _) (hvA_one _) ?_; intro w1 hs; clear HS; have HS := Lib.hid hs; clear hs)))
  have HF0 := HS.out.drew
  clear HS
  refine regionK 10 (fun W => St [] w [⟨g5, hvA zeroH, 38⟩, ⟨g3, plA I N a l.length c root, 47⟩, ⟨g2, hvA leaf, 38⟩] [⟨4, 1, a7, sd.length, c7, bvs sd⟩] W) (by kernel_rfl) HF0 (fun hHeld => ?_)
  have HF := HF0
  clear HF0
  refine takeK (i := 0) (dst := (some 87)) rfl rfl (by kernel_rfl) (by kernel_rfl) (by kernel_rfl) (by kernel_rfl) (by kernel_rfl) (fun _ _ _ h => h) hHeld (yields_get Tryd.aghash (by rfl) rfl rfl (hcs_length _) (fun w h => h.rangeH (g := g2) (x := leaf) (t := 38) (by simp))) ?_
  try simp only [Act.put, List.setIfInBounds_toArray, List.set_cons_zero, List.set_cons_succ, hcsA]
  refine takeP (i := 1) (dst := (some 88)) (v := ?_) rfl rfl (by kernel_rfl) (by kernel_rfl) (by kernel_rfl) (by decide) (fun _ _ _ h => h) (fun _ => hHeld) (Or.inl ⟨by rfl, ?_⟩) ?_
  rotate_left
  · intro w' _
    go_simp
    all_goals (with_reducible rfl)
  try simp only [Act.put, List.setIfInBounds_toArray, List.set_cons_zero, List.set_cons_succ]
  refine takeK (i := 2) (dst := (some 89)) rfl rfl (by kernel_rfl) (by kernel_rfl) (by kernel_rfl) (by kernel_rfl) (by kernel_rfl) (fun _ _ _ h => h) hHeld (yields_cell Tryd.schashes (by rfl) rfl rfl (fun w h => h.cellAt (g := g3) (c := plA I N a l.length c root) (t := 47) (by simp) (pl_2 _ _ _ _ _ _))) ?_
  try simp only [Act.put, List.setIfInBounds_toArray, List.set_cons_zero, List.set_cons_succ]
  refine takeP (i := 3) (dst := (some 90)) (v := ?_) rfl rfl (by kernel_rfl) (by kernel_rfl) (by kernel_rfl) (by decide) (fun _ _ _ h => h) (fun _ => hHeld) (Or.inl ⟨by rfl, ?_⟩) ?_
  rotate_left
  · intro w' _
    go_simp
    all_goals (with_reducible rfl)
  try simp only [Act.put, List.setIfInBounds_toArray, List.set_cons_zero, List.set_cons_succ]
  refine takeP (i := 4) (dst := (some 91)) (v := ?_) rfl rfl (by kernel_rfl) (by kernel_rfl) (by kernel_rfl) (by decide) (fun _ _ _ h => h) (fun _ => hHeld) (Or.inl ⟨by rfl, ?_⟩) ?_
  rotate_left
  · intro w' _
    go_simp
    all_goals (with_reducible rfl)
  try simp only [Act.put, List.setIfInBounds_toArray, List.set_cons_zero, List.set_cons_succ]
  refine takeP (i := 5) (dst := (some 92)) (v := ?_) rfl rfl (by kernel_rfl) (by kernel_rfl) (by kernel_rfl) (by decide) (fun _ _ _ h => h) (fun _ => hHeld) (Or.inl ⟨by rfl, ?_⟩) ?_
  rotate_left
  · intro w' _
    go_simp
    all_goals (with_reducible rfl)
  try simp only [Act.put, List.setIfInBounds_toArray, List.set_cons_zero, List.set_cons_succ]
  refine takeP (i := 6) (dst := (some 93)) (v := ?_) rfl rfl (by kernel_rfl) (by kernel_rfl) (by kernel_rfl) (by decide) (fun _ _ _ h => h) (fun _ => hHeld) (Or.inl ⟨by rfl, ?_⟩) ?_
  rotate_left
  · intro w' _
    go_simp
    all_goals (with_reducible rfl)
  try simp only [Act.put, List.setIfInBounds_toArray, List.set_cons_zero, List.set_cons_succ]
  refine goK (i := 7) (dst := (some 8)) (by kernel_rfl) rfl rfl (by rfl) (fun o hop hdst => ?_)
  refine wNewS HF Tryd.zhash (hop.trans rfl) (c := hvA zeroH) rfl ?_
  intro g8 w1 hs
  refine ⟨fun _ => hs.sub (List.Sublist.cons _ (List.Sublist.refl _)) (List.Sublist.refl _), ?_⟩
  have hHeld := (hs.sub (List.Sublist.cons _ (List.Sublist.refl _)) (List.Sublist.refl _) : St [] w [⟨g5, hvA zeroH, 38⟩, ⟨g3, plA I N a l.length c root, 47⟩, ⟨g2, hvA leaf, 38⟩] [⟨4, 1, a7, sd.length, c7, bvs sd⟩] w1)
  have HF := hs
  clear hs
  simp only [hdst, Act.put, List.setIfInBounds_toArray, List.set_cons_zero, List.set_cons_succ]
  clear hop hdst o
  refine goK (i := 8) (dst := none) (by kernel_rfl) rfl rfl (by rfl) (fun o hop hdst => ?_)
  refine wSetS0 HF Tryd.aghash (hop.trans rfl) rfl (by first | exact hvA_size _ | rfl) rfl (by first | exact hvA_size _ | rfl) (hvA_one _) ?_
  intro w1 hs
  refine ⟨fun _ => hs.sub (List.Sublist.cons _ (List.Sublist.refl _)) (List.Sublist.refl _), ?_⟩
  have hHeld := (hs.sub (List.Sublist.cons _ (List.Sublist.refl _)) (List.Sublist.refl _) : St [] w [⟨g5, hvA zeroH, 38⟩, ⟨g3, plA I N a l.length c root, 47⟩, ⟨g2, hvA leaf, 38⟩] [⟨4, 1, a7, sd.length, c7, bvs sd⟩] w1)
  clear HF
  have HF := hs
  clear hs
  simp only [hdst, Act.put]
  clear hop hdst o
  refine takeP (i := 9) (dst := (some 9)) (v := ?_) rfl rfl (by kernel_rfl) (by kernel_rfl) (by kernel_rfl) (by decide) (fun _ _ _ h => h) (fun _ => hHeld) (Or.inl ⟨by rfl, ?_⟩) ?_
  rotate_left
  · intro w' _
    go_simp
    all_goals (with_reducible rfl)
  try simp only [Act.put, List.setIfInBounds_toArray, List.set_cons_zero, List.set_cons_succ]
  refine doneK (by kernel_rfl) ?_ _
  have HS := Lib.hid HF
  clear HF hHeld
  go_wp2_with fail
  go_loopw [10] (fun v10 wr => v10 = .int .i64 0 ∧ St [] w [⟨g8, hvA leaf, 38⟩, ⟨g5, hvA zeroH, 38⟩, ⟨g3, plA I N a l.length c root, 47⟩, ⟨g2, hvA leaf, 38⟩] [⟨4, 1, a7, sd.length, c7, bvs sd⟩] wr) (fun _ _ => 0)
  case atStart => exact ⟨rfl, HS.out⟩
  case round =>
    obtain ⟨rfl, hs⟩ := hrel
    clear HS
    have HS := Lib.hid hs
    clear hs
    go_wp2_with (first
    | (refine isLoad rfl ?_; first | (refine cellS0 HS.out Tryd.scint rfl rfl rfl (pl_0 _ _ _ _ _ _) ?_) | (refine cellS0 HS.out Tryd.scint rfl rfl rfl (pl_1 _ _ _ _ _ _) ?_) | (refine cellS0 HS.out Tryd.schashes rfl rfl rfl (pl_2 _ _ _ _ _ _) ?_) | (refine cellS1 HS.out Tryd.scint rfl rfl rfl (pl_0 _ _ _ _ _ _) ?_) | (refine cellS1 HS.out Tryd.scint rfl rfl rfl (pl_1 _ _ _ _ _ _) ?_) | (refine cellS1 HS.out Tryd.schashes rfl rfl rfl (pl_2 _ _ _ _ _ _) ?_) | (refine cellS2 HS.out Tryd.scint rfl rfl rfl (pl_0 _ _ _ _ _ _) ?_) | (refine cellS2 HS.out Tryd.scint rfl rfl rfl (pl_1 _ _ _ _ _ _) ?_) | (refine cellS2 HS.out Tryd.schashes rfl rfl rfl (pl_2 _ _ _ _ _ _) ?_) | (refine cellS3 HS.out Tryd.scint rfl rfl rfl (pl_0 _ _ _ _ _ _) ?_) | (refine cellS3 HS.out Tryd.scint rfl rfl rfl (pl_1 _ _ _ _ _ _) ?_) | (refine cellS3 HS.out Tryd.schashes rfl rfl rfl (pl_2 _ _ _ _ _ _) ?_) | (refine getS0 HS.out Tryd.aghash rfl rfl rfl (by first | exact hvA_size _ | rfl) ?_) | (refine getS1 HS.out Tryd.aghash rfl rfl rfl (by first | exact hvA_size _ | rfl) ?_) | (refine getS2 HS.out Tryd.aghash rfl rfl rfl (by first | exact hvA_size _ | rfl) ?_) | (refine getS3 HS.out Tryd.aghash rfl rfl rfl (by first | exact hvA_size _ | rfl) ?_) | (refine getfS0 HS.out Tryd.aghash rfl rfl rfl (mid := hcs root) (pl_root _ _ _ _ _ _) (hcs_length _) ?_) | (refine getfS1 HS.out Tryd.aghash rfl rfl rfl (mid := hcs root) (pl_root _ _ _ _ _ _) (hcs_length _) ?_) | (refine getfS2 HS.out Tryd.aghash rfl rfl rfl (mid := hcs root) (pl_root _ _ _ _ _ _) (hcs_length _) ?_) | (refine getfS3 HS.out Tryd.aghash rfl rfl rfl (mid := hcs root) (pl_root _ _ _ _ _ _) (hcs_length _) ?_))
    | (refine isStore rfl ?_; first | (refine setS0 HS.out Tryd.aghash rfl rfl rfl (by first | exact hvA_size _ | rfl) rfl (by first | exact hvA_size _ | rfl) (hvA_one _) ?_; intro w1 hs; clear HS; have HS := Lib.hid hs; clear hs) | (refine setS0 HS.out Tryd.aghash rfl rfl rfl (by first | exact hvA_size _ | rfl) (c := hvA zeroH) rfl (hvA_size _) (hvA_one _) ?_; intro w1 hs; clear HS; have HS := Lib.hid hs; clear hs) | (refine setS1 HS.out Tryd.aghash rfl rfl rfl (by first | exact hvA_size _ | rfl) rfl (by first | exact hvA_size _ | rfl) (hvA_one _) ?_; intro w1 hs; clear HS; have HS := Lib.hid hs; clear hs) | (refine setS1 HS.out Tryd.aghash rfl rfl rfl (by first | exact hvA_size _ | rfl) (c := hvA zeroH) rfl (hvA_size _) (hvA_one _) ?_; intro w1 hs; clear HS; have HS := Lib.hid hs; clear hs) | (refine setS2 HS.out Tryd.aghash rfl rfl rfl (by first | exact hvA_size _ | rfl) rfl (by first | exact hvA_size _ | rfl) (hvA_one _) ?_; intro w1 hs; clear HS; have HS := Lib.hid hs; clear hs) | (refine setS2 HS.out Tryd.aghash rfl rfl rfl (by first | exact hvA_size _ | rfl) (c := hvA zeroH) rfl (hvA_size _) (hvA_one _) ?_; intro w1 hs; clear HS; have HS := Lib.hid hs; clear hs) | (refine setS3 HS.out Tryd.aghash rfl rfl rfl (by first | exact hvA_size _ | rfl) rfl (by first | exact hvA_size _ | rfl) (hvA_one _) ?_; intro w1 hs; clear HS; have HS := Lib.hid hs; clear hs) | (refine setS3 HS.out Tryd.aghash rfl rfl rfl (by first | exact hvA_size _ | rfl) (c := hvA zeroH) rfl (hvA_size _) (hvA_one _) ?_; intro w1 hs; clear HS; have HS := Lib.hid hs; clear hs)))
    refine (HIN.out _ HS.out.kp root).mono ?_
    rintro e w1 ⟨rfl, k1⟩
    have HS := Lib.hid (HS.out.call k1)
    clear k1
    simp only [inV]
    go_wp2_with (first
        | (refine isLoad rfl ?_; first | (refine cellS0 HS.out Tryd.scint rfl rfl rfl (pl_0 _ _ _ _ _ _) ?_) | (refine cellS0 HS.out Tryd.scint rfl rfl rfl (pl_1 _ _ _ _ _ _) ?_) | (refine cellS0 HS.out Tryd.schashes rfl rfl rfl (pl_2 _ _ _ _ _ _) ?_) | (refine cellS1 HS.out Tryd.scint rfl rfl rfl (pl_0 _ _ _ _ _ _) ?_) | (refine cellS1 HS.out Tryd.scint rfl rfl rfl (pl_1 _ _ _ _ _ _) ?_) | (refine cellS1 HS.out Tryd.schashes rfl rfl rfl (pl_2 _ _ _ _ _ _) ?_) | (refine cellS2 HS.out Tryd.scint rfl rfl rfl (pl_0 _ _ _ _ _ _) ?_) | (refine cellS2 HS.out Tryd.scint rfl rfl rfl (pl_1 _ _ _ _ _ _) ?_) | (refine cellS2 HS.out Tryd.schashes rfl rfl rfl (pl_2 _ _ _ _ _ _) ?_) | (refine cellS3 HS.out Tryd.scint rfl rfl rfl (pl_0 _ _ _ _ _ _) ?_) | (refine cellS3 HS.out Tryd.scint rfl rfl rfl (pl_1 _ _ _ _ _ _) ?_) | (refine cellS3 HS.out Tryd.schashes rfl rfl rfl (pl_2 _ _ _ _ _ _) ?_) | (refine getS0 HS.out Tryd.aghash rfl rfl rfl (by first | exact hvA_size _ | rfl) ?_) | (refine getS1 HS.out Tryd.aghash rfl rfl rfl (by first | exact hvA_size _ | rfl) ?_) | (refine getS2 HS.out Tryd.aghash rfl rfl rfl (by first | exact hvA_size _ | rfl) ?_) | (refine getS3 HS.out Tryd.aghash rfl rfl rfl (by first | exact hvA_size _ | rfl) ?_) | (refine getfS0 HS.out Tryd.aghash rfl rfl rfl (mid := hcs root) (pl_root _ _ _ _ _ _) (hcs_length _) ?_) | (refine getfS1 HS.out Tryd.aghash rfl rfl rfl (mid := hcs root) (pl_root _ _ _ _ _ _) (hcs_length _) ?_) | (refine getfS2 HS.out Tryd.aghash rfl rfl rfl (mid := hcs root) (pl_root _ _ _ _ _ _) (hcs_length _) ?_) | (refine getfS3 HS.out Tryd.aghash rfl rfl rfl (mid := hcs root) (pl_root _ _ _ _ _ _) (hcs_length _) ?_))
        | (refine isStore rfl ?_; first | (refine setS0 HS.out Tryd.aghash rfl rfl rfl (by first | exact hvA_size _ | rfl) rfl (by first | exact hvA_size _ | rfl) (hvA_one _) ?_; intro w1 hs; clear HS; have HS := Lib.hid hs; clear hs) | (refine setS0 HS.out Tryd.aghash rfl rfl rfl (by first | exact hvA_size _ | rfl) (c := hvA zeroH) rfl (hvA_size _) (hvA_one _) ?_; intro w1 hs; clear HS; have HS := Lib.hid hs; clear hs) | (refine setS1 HS.out Tryd.aghash rfl rfl rfl (by first | exact hvA_size _ | rfl) rfl (by first | exact hvA_size _ | rfl) (hvA_one _) ?_; intro w1 hs; clear HS; have HS := Lib.hid hs; clear hs) | (refine setS1 HS.out Tryd.aghash rfl rfl rfl (by first | exact hvA_size _ | rfl) (c := hvA zeroH) rfl (hvA_size _) (hvA_one _) ?_; intro w1 hs; clear HS; have HS := Lib.hid hs; clear hs) | (refine setS2 HS.out Tryd.aghash rfl rfl rfl (by first | exact hvA_size _ | rfl) rfl (by first | exact hvA_size _ | rfl) (hvA_one _) ?_; intro w1 hs; clear HS; have HS := Lib.hid hs; clear hs) | (refine setS2 HS.out Tryd.aghash rfl rfl rfl (by first | exact hvA_size _ | rfl) (c := hvA zeroH) rfl (hvA_size _) (hvA_one _) ?_; intro w1 hs; clear HS; have HS := Lib.hid hs; clear hs) | (refine setS3 HS.out Tryd.aghash rfl rfl rfl (by first | exact hvA_size _ | rfl) rfl (by first | exact hvA_size _ | rfl) (hvA_one _) ?_; intro w1 hs; clear HS; have HS := Lib.hid hs; clear hs) | (refine setS3 HS.out Tryd.aghash rfl rfl rfl (by first | exact hvA_size _ | rfl) (c := hvA zeroH) rfl (hvA_size _) (hvA_one _) ?_; intro w1 hs; clear HS; have HS := Lib.hid hs; clear hs)))
    refine (awake8_any _ (HL.out.below HS.out.kp) (Nat.le_trans h2 HS.out.kp.size)).mono ?_
    rintro e w9 ⟨rfl, k9⟩
    have K9 := Lib.hid (HS.out.kp.trans k9 (by simp))
    clear k9
    go_wp2
    go_ret
    exact ⟨rfl, K9.out⟩
end Go.Proofs.YtkjdnpalafldhaaDoor.proofLeads
