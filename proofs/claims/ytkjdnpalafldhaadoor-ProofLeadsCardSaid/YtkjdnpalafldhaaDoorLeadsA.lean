/-
  ProofLeads, in parts. (Printed by gen_lawleads.py.)
-/
import Derived.Test.YtkjdnpalafldhaaDoorPrf3
import Derived.Test.YtkjdnpalafldhaaDoorPrf9
import Derived.Test.YtkjdnpalafldhaaDoorPrf12
import Derived.Test.YtkjdnpalafldhaaDoorAwake8
import Derived.Test.YtkjdnpalafldhaaDoorLeadsP
namespace Go.Proofs.YtkjdnpalafldhaaDoor.proofLeads
open Go.ChangeShapes Go.WideShapes Go.ChangeAt Go.RowKit Go.Proofs.YtkjdnpalafldhaaDoor

set_option maxRecDepth 100000 in
set_option maxHeartbeats 4000000 in
theorem walk_big (leaf : Hsh) (I N : Int) (a : Option Addr) (c : Nat) (l : List Hsh) (root : Hsh) (w : World) (hb : 80 < l.length ∨ 1152921504606846976 < N) (hL : Laid w) (h2 : 2 ≤ w.heap.size) :
    Calls Tryd.prog 8 #[hv leaf, .agg (plA I N a l.length c root)] w fun e w' => e = .returned (.bool true) ∧ Kp [] w w' := by
  have HL := Lib.hid hL
  have hb' : (l.length : Int) > 80 ∨ (¬ (l.length : Int) > 80 ∧ N > 1152921504606846976) := by omega
  have HS := Lib.hid (St.start [] w)
  have tokB0 : True := trivial
  have tokB1 : True := trivial
  clear hL hb
  rcases hb' with hb | ⟨hb0, hb⟩
  all_goals
    go_enter Tryd.func8, Tryd.ntmps8
    go_wp2_with (first
    | (have _t := tokB0; refine boxS HS.out rfl rfl rfl (c := hvA leaf) rfl ?_; clear tokB0; intro g2 w1 hs; clear HS; have HS := Lib.hid hs; clear hs)
    | (have _t := tokB1; refine boxS HS.out rfl rfl rfl (c := plA I N a l.length c root) rfl ?_; clear tokB1; intro g3 w1 hs; clear HS; have HS := Lib.hid hs; clear hs)
    | (refine isLoad rfl ?_; first | (refine cellS0 HS.out Tryd.scint rfl rfl rfl (pl_0 _ _ _ _ _ _) ?_) | (refine cellS0 HS.out Tryd.scint rfl rfl rfl (pl_1 _ _ _ _ _ _) ?_) | (refine cellS0 HS.out Tryd.schashes rfl rfl rfl (pl_2 _ _ _ _ _ _) ?_) | (refine cellS1 HS.out Tryd.scint rfl rfl rfl (pl_0 _ _ _ _ _ _) ?_) | (refine cellS1 HS.out Tryd.scint rfl rfl rfl (pl_1 _ _ _ _ _ _) ?_) | (refine cellS1 HS.out Tryd.schashes rfl rfl rfl (pl_2 _ _ _ _ _ _) ?_) | (refine getS0 HS.out Tryd.aghash rfl rfl rfl (by first | exact hvA_size _ | rfl) ?_) | (refine getS1 HS.out Tryd.aghash rfl rfl rfl (by first | exact hvA_size _ | rfl) ?_) | (refine getfS0 HS.out Tryd.aghash rfl rfl rfl (mid := hcs root) (pl_root _ _ _ _ _ _) (hcs_length _) ?_) | (refine getfS1 HS.out Tryd.aghash rfl rfl rfl (mid := hcs root) (pl_root _ _ _ _ _ _) (hcs_length _) ?_))
    | (refine isStore rfl ?_; first | (refine setS0 HS.out Tryd.aghash rfl rfl rfl (by first | exact hvA_size _ | rfl) rfl (by first | exact hvA_size _ | rfl) (hvA_one _) ?_; intro w1 hs; clear HS; have HS := Lib.hid hs; clear hs) | (refine setS0 HS.out Tryd.aghash rfl rfl rfl (by first | exact hvA_size _ | rfl) (c := hvA zeroH) rfl (hvA_size _) (hvA_one _) ?_; intro w1 hs; clear HS; have HS := Lib.hid hs; clear hs) | (refine setS1 HS.out Tryd.aghash rfl rfl rfl (by first | exact hvA_size _ | rfl) rfl (by first | exact hvA_size _ | rfl) (hvA_one _) ?_; intro w1 hs; clear HS; have HS := Lib.hid hs; clear hs) | (refine setS1 HS.out Tryd.aghash rfl rfl rfl (by first | exact hvA_size _ | rfl) (c := hvA zeroH) rfl (hvA_size _) (hvA_one _) ?_; intro w1 hs; clear HS; have HS := Lib.hid hs; clear hs)))
    refine (awake8_any _ (HL.out.below HS.out.kp) (Nat.le_trans h2 HS.out.kp.size)).mono ?_
    rintro e w9 ⟨rfl, k9⟩
    have K9 := Lib.hid (HS.out.kp.trans k9 (by simp))
    clear k9
    go_wp2
    go_ret
    exact ⟨rfl, K9.out⟩
set_option maxRecDepth 100000 in
set_option maxHeartbeats 4000000 in
theorem walk_bad (leaf : Hsh) (I N : Int) (a : Option Addr) (c : Nat) (l : List Hsh) (root : Hsh) (w : World) (hl : l.length ≤ 80) (hN : N ≤ 1152921504606846976) (hi : I < 0 ∨ N ≤ I) (hL : Laid w) (h2 : 2 ≤ w.heap.size) :
    Calls Tryd.prog 8 #[hv leaf, .agg (plA I N a l.length c root)] w fun e w' => e = .returned (.bool true) ∧ Kp [] w w' := by
  have HL := Lib.hid hL
  have HLD := Lib.hid (fun W => lead_bad leaf I N (.slice a l.length c) W hi)
  have HLN := Lib.hid (fun W => length_bad I N W hi)
  have HIN := Lib.hid (fun W => in_bad leaf root I N (.slice a l.length c) W hi)
  have hi' : (I < 0 ∧ decide (I < 0) = true) ∨ (¬ I < 0 ∧ N ≤ I ∧ decide (I < 0) = false) := by
    by_cases h : I < 0
    · exact .inl ⟨h, decide_eq_true h⟩
    · exact .inr ⟨h, by omega, decide_eq_false h⟩
  have hl1 : ¬ (l.length : Int) > 80 := by omega
  have hN1 : ¬ N > 1152921504606846976 := by omega
  have HS := Lib.hid (St.start [] w)
  have hz : ∀ w, (Op.equalIn 10000 38 (.agg (hvA zeroH)) (.agg #[.int .u8 0, .int .u8 0, .int .u8 0, .int .u8 0, .int .u8 0, .int .u8 0, .int .u8 0, .int .u8 0, .int .u8 0, .int .u8 0, .int .u8 0, .int .u8 0, .int .u8 0, .int .u8 0, .int .u8 0, .int .u8 0, .int .u8 0, .int .u8 0, .int .u8 0, .int .u8 0, .int .u8 0, .int .u8 0, .int .u8 0, .int .u8 0, .int .u8 0, .int .u8 0, .int .u8 0, .int .u8 0, .int .u8 0, .int .u8 0, .int .u8 0, .int .u8 0])).run Tryd.prog w = .ok true w := fun w => by have := Tryd.equalHash w zeroH zeroH; rw [show decide (zeroH = zeroH) = true by simp] at this; exact this
  have hgt : Tryd.prog.eqGuardType Tryd.prog.depth 38 = false := Tryd.eqGuardType38
  have tokN0 : True := trivial
  have tokB0 : True := trivial
  have tokB1 : True := trivial
  clear hL hi
  rcases hi' with ⟨hi, hdi⟩ | ⟨hi0, hi, hdi⟩
  all_goals
    go_enter Tryd.func8, Tryd.ntmps8
    go_wp2_with (first
    | (have _t := tokB0; refine boxS HS.out rfl rfl rfl (c := hvA leaf) rfl ?_; clear tokB0; intro g2 w1 hs; clear HS; have HS := Lib.hid hs; clear hs)
    | (have _t := tokB1; refine boxS HS.out rfl rfl rfl (c := plA I N a l.length c root) rfl ?_; clear tokB1; intro g3 w1 hs; clear HS; have HS := Lib.hid hs; clear hs)
    | (have _t := tokN0; refine newS HS.out Tryd.zhash rfl rfl (c := hvA zeroH) rfl ?_; clear tokN0; intro g5 w1 hs; clear HS; have HS := Lib.hid hs; clear hs)
    | (refine isLoad rfl ?_; first | (refine cellS0 HS.out Tryd.scint rfl rfl rfl (pl_0 _ _ _ _ _ _) ?_) | (refine cellS0 HS.out Tryd.scint rfl rfl rfl (pl_1 _ _ _ _ _ _) ?_) | (refine cellS0 HS.out Tryd.schashes rfl rfl rfl (pl_2 _ _ _ _ _ _) ?_) | (refine cellS1 HS.out Tryd.scint rfl rfl rfl (pl_0 _ _ _ _ _ _) ?_) | (refine cellS1 HS.out Tryd.scint rfl rfl rfl (pl_1 _ _ _ _ _ _) ?_) | (refine cellS1 HS.out Tryd.schashes rfl rfl rfl (pl_2 _ _ _ _ _ _) ?_) | (refine cellS2 HS.out Tryd.scint rfl rfl rfl (pl_0 _ _ _ _ _ _) ?_) | (refine cellS2 HS.out Tryd.scint rfl rfl rfl (pl_1 _ _ _ _ _ _) ?_) | (refine cellS2 HS.out Tryd.schashes rfl rfl rfl (pl_2 _ _ _ _ _ _) ?_) | (refine getS0 HS.out Tryd.aghash rfl rfl rfl (by first | exact hvA_size _ | rfl) ?_) | (refine getS1 HS.out Tryd.aghash rfl rfl rfl (by first | exact hvA_size _ | rfl) ?_) | (refine getS2 HS.out Tryd.aghash rfl rfl rfl (by first | exact hvA_size _ | rfl) ?_) | (refine getfS0 HS.out Tryd.aghash rfl rfl rfl (mid := hcs root) (pl_root _ _ _ _ _ _) (hcs_length _) ?_) | (refine getfS1 HS.out Tryd.aghash rfl rfl rfl (mid := hcs root) (pl_root _ _ _ _ _ _) (hcs_length _) ?_) | (refine getfS2 HS.out Tryd.aghash rfl rfl rfl (mid := hcs root) (pl_root _ _ _ _ _ _) (hcs_length _) ?_))
    | (refine isStore rfl ?_; first | (refine setS0 HS.out Tryd.aghash rfl rfl rfl (by first | exact hvA_size _ | rfl) rfl (by first | exact hvA_size _ | rfl) (hvA_one _) ?_; intro w1 hs; clear HS; have HS := Lib.hid hs; clear hs) | (refine setS0 HS.out Tryd.aghash rfl rfl rfl (by first | exact hvA_size _ | rfl) (c := hvA zeroH) rfl (hvA_size _) (hvA_one _) ?_; intro w1 hs; clear HS; have HS := Lib.hid hs; clear hs) | (refine setS1 HS.out Tryd.aghash rfl rfl rfl (by first | exact hvA_size _ | rfl) rfl (by first | exact hvA_size _ | rfl) (hvA_one _) ?_; intro w1 hs; clear HS; have HS := Lib.hid hs; clear hs) | (refine setS1 HS.out Tryd.aghash rfl rfl rfl (by first | exact hvA_size _ | rfl) (c := hvA zeroH) rfl (hvA_size _) (hvA_one _) ?_; intro w1 hs; clear HS; have HS := Lib.hid hs; clear hs) | (refine setS2 HS.out Tryd.aghash rfl rfl rfl (by first | exact hvA_size _ | rfl) rfl (by first | exact hvA_size _ | rfl) (hvA_one _) ?_; intro w1 hs; clear HS; have HS := Lib.hid hs; clear hs) | (refine setS2 HS.out Tryd.aghash rfl rfl rfl (by first | exact hvA_size _ | rfl) (c := hvA zeroH) rfl (hvA_size _) (hvA_one _) ?_; intro w1 hs; clear HS; have HS := Lib.hid hs; clear hs)))
    refine (HLD.out _).mono ?_
    rintro e w1 ⟨rfl, k1⟩
    have HS := Lib.hid (HS.out.call k1)
    clear k1
    simp only [hcsA]
    go_wp2_with (first
    | (have _t := tokN0; refine newS HS.out Tryd.zhash rfl rfl (c := hvA zeroH) rfl ?_; clear tokN0; intro g5 w1 hs; clear HS; have HS := Lib.hid hs; clear hs)
    | (refine isLoad rfl ?_; first | (refine cellS0 HS.out Tryd.scint rfl rfl rfl (pl_0 _ _ _ _ _ _) ?_) | (refine cellS0 HS.out Tryd.scint rfl rfl rfl (pl_1 _ _ _ _ _ _) ?_) | (refine cellS0 HS.out Tryd.schashes rfl rfl rfl (pl_2 _ _ _ _ _ _) ?_) | (refine cellS1 HS.out Tryd.scint rfl rfl rfl (pl_0 _ _ _ _ _ _) ?_) | (refine cellS1 HS.out Tryd.scint rfl rfl rfl (pl_1 _ _ _ _ _ _) ?_) | (refine cellS1 HS.out Tryd.schashes rfl rfl rfl (pl_2 _ _ _ _ _ _) ?_) | (refine cellS2 HS.out Tryd.scint rfl rfl rfl (pl_0 _ _ _ _ _ _) ?_) | (refine cellS2 HS.out Tryd.scint rfl rfl rfl (pl_1 _ _ _ _ _ _) ?_) | (refine cellS2 HS.out Tryd.schashes rfl rfl rfl (pl_2 _ _ _ _ _ _) ?_) | (refine getS0 HS.out Tryd.aghash rfl rfl rfl (by first | exact hvA_size _ | rfl) ?_) | (refine getS1 HS.out Tryd.aghash rfl rfl rfl (by first | exact hvA_size _ | rfl) ?_) | (refine getS2 HS.out Tryd.aghash rfl rfl rfl (by first | exact hvA_size _ | rfl) ?_) | (refine getfS0 HS.out Tryd.aghash rfl rfl rfl (mid := hcs root) (pl_root _ _ _ _ _ _) (hcs_length _) ?_) | (refine getfS1 HS.out Tryd.aghash rfl rfl rfl (mid := hcs root) (pl_root _ _ _ _ _ _) (hcs_length _) ?_) | (refine getfS2 HS.out Tryd.aghash rfl rfl rfl (mid := hcs root) (pl_root _ _ _ _ _ _) (hcs_length _) ?_))
    | (refine isStore rfl ?_; first | (refine setS0 HS.out Tryd.aghash rfl rfl rfl (by first | exact hvA_size _ | rfl) rfl (by first | exact hvA_size _ | rfl) (hvA_one _) ?_; intro w1 hs; clear HS; have HS := Lib.hid hs; clear hs) | (refine setS0 HS.out Tryd.aghash rfl rfl rfl (by first | exact hvA_size _ | rfl) (c := hvA zeroH) rfl (hvA_size _) (hvA_one _) ?_; intro w1 hs; clear HS; have HS := Lib.hid hs; clear hs) | (refine setS1 HS.out Tryd.aghash rfl rfl rfl (by first | exact hvA_size _ | rfl) rfl (by first | exact hvA_size _ | rfl) (hvA_one _) ?_; intro w1 hs; clear HS; have HS := Lib.hid hs; clear hs) | (refine setS1 HS.out Tryd.aghash rfl rfl rfl (by first | exact hvA_size _ | rfl) (c := hvA zeroH) rfl (hvA_size _) (hvA_one _) ?_; intro w1 hs; clear HS; have HS := Lib.hid hs; clear hs) | (refine setS2 HS.out Tryd.aghash rfl rfl rfl (by first | exact hvA_size _ | rfl) rfl (by first | exact hvA_size _ | rfl) (hvA_one _) ?_; intro w1 hs; clear HS; have HS := Lib.hid hs; clear hs) | (refine setS2 HS.out Tryd.aghash rfl rfl rfl (by first | exact hvA_size _ | rfl) (c := hvA zeroH) rfl (hvA_size _) (hvA_one _) ?_; intro w1 hs; clear HS; have HS := Lib.hid hs; clear hs)))
    refine (HLN.out _).mono ?_
    rintro e w1 ⟨rfl, rfl⟩
    go_wp2_with (first
    | (refine isLoad rfl ?_; first | (refine cellS0 HS.out Tryd.scint rfl rfl rfl (pl_0 _ _ _ _ _ _) ?_) | (refine cellS0 HS.out Tryd.scint rfl rfl rfl (pl_1 _ _ _ _ _ _) ?_) | (refine cellS0 HS.out Tryd.schashes rfl rfl rfl (pl_2 _ _ _ _ _ _) ?_) | (refine cellS1 HS.out Tryd.scint rfl rfl rfl (pl_0 _ _ _ _ _ _) ?_) | (refine cellS1 HS.out Tryd.scint rfl rfl rfl (pl_1 _ _ _ _ _ _) ?_) | (refine cellS1 HS.out Tryd.schashes rfl rfl rfl (pl_2 _ _ _ _ _ _) ?_) | (refine cellS2 HS.out Tryd.scint rfl rfl rfl (pl_0 _ _ _ _ _ _) ?_) | (refine cellS2 HS.out Tryd.scint rfl rfl rfl (pl_1 _ _ _ _ _ _) ?_) | (refine cellS2 HS.out Tryd.schashes rfl rfl rfl (pl_2 _ _ _ _ _ _) ?_) | (refine getS0 HS.out Tryd.aghash rfl rfl rfl (by first | exact hvA_size _ | rfl) ?_) | (refine getS1 HS.out Tryd.aghash rfl rfl rfl (by first | exact hvA_size _ | rfl) ?_) | (refine getS2 HS.out Tryd.aghash rfl rfl rfl (by first | exact hvA_size _ | rfl) ?_) | (refine getfS0 HS.out Tryd.aghash rfl rfl rfl (mid := hcs root) (pl_root _ _ _ _ _ _) (hcs_length _) ?_) | (refine getfS1 HS.out Tryd.aghash rfl rfl rfl (mid := hcs root) (pl_root _ _ _ _ _ _) (hcs_length _) ?_) | (refine getfS2 HS.out Tryd.aghash rfl rfl rfl (mid := hcs root) (pl_root _ _ _ _ _ _) (hcs_length _) ?_))
    | (refine isStore rfl ?_; first | (refine setS0 HS.out Tryd.aghash rfl rfl rfl (by first | exact hvA_size _ | rfl) rfl (by first | exact hvA_size _ | rfl) (hvA_one _) ?_; intro w1 hs; clear HS; have HS := Lib.hid hs; clear hs) | (refine setS0 HS.out Tryd.aghash rfl rfl rfl (by first | exact hvA_size _ | rfl) (c := hvA zeroH) rfl (hvA_size _) (hvA_one _) ?_; intro w1 hs; clear HS; have HS := Lib.hid hs; clear hs) | (refine setS1 HS.out Tryd.aghash rfl rfl rfl (by first | exact hvA_size _ | rfl) rfl (by first | exact hvA_size _ | rfl) (hvA_one _) ?_; intro w1 hs; clear HS; have HS := Lib.hid hs; clear hs) | (refine setS1 HS.out Tryd.aghash rfl rfl rfl (by first | exact hvA_size _ | rfl) (c := hvA zeroH) rfl (hvA_size _) (hvA_one _) ?_; intro w1 hs; clear HS; have HS := Lib.hid hs; clear hs) | (refine setS2 HS.out Tryd.aghash rfl rfl rfl (by first | exact hvA_size _ | rfl) rfl (by first | exact hvA_size _ | rfl) (hvA_one _) ?_; intro w1 hs; clear HS; have HS := Lib.hid hs; clear hs) | (refine setS2 HS.out Tryd.aghash rfl rfl rfl (by first | exact hvA_size _ | rfl) (c := hvA zeroH) rfl (hvA_size _) (hvA_one _) ?_; intro w1 hs; clear HS; have HS := Lib.hid hs; clear hs)))
    refine (HIN.out _).mono ?_
    rintro e w1 ⟨rfl, k1⟩
    have HS := Lib.hid (HS.out.call k1)
    clear k1
    go_wp2_with (first
    | (refine isLoad rfl ?_; first | (refine cellS0 HS.out Tryd.scint rfl rfl rfl (pl_0 _ _ _ _ _ _) ?_) | (refine cellS0 HS.out Tryd.scint rfl rfl rfl (pl_1 _ _ _ _ _ _) ?_) | (refine cellS0 HS.out Tryd.schashes rfl rfl rfl (pl_2 _ _ _ _ _ _) ?_) | (refine cellS1 HS.out Tryd.scint rfl rfl rfl (pl_0 _ _ _ _ _ _) ?_) | (refine cellS1 HS.out Tryd.scint rfl rfl rfl (pl_1 _ _ _ _ _ _) ?_) | (refine cellS1 HS.out Tryd.schashes rfl rfl rfl (pl_2 _ _ _ _ _ _) ?_) | (refine cellS2 HS.out Tryd.scint rfl rfl rfl (pl_0 _ _ _ _ _ _) ?_) | (refine cellS2 HS.out Tryd.scint rfl rfl rfl (pl_1 _ _ _ _ _ _) ?_) | (refine cellS2 HS.out Tryd.schashes rfl rfl rfl (pl_2 _ _ _ _ _ _) ?_) | (refine getS0 HS.out Tryd.aghash rfl rfl rfl (by first | exact hvA_size _ | rfl) ?_) | (refine getS1 HS.out Tryd.aghash rfl rfl rfl (by first | exact hvA_size _ | rfl) ?_) | (refine getS2 HS.out Tryd.aghash rfl rfl rfl (by first | exact hvA_size _ | rfl) ?_) | (refine getfS0 HS.out Tryd.aghash rfl rfl rfl (mid := hcs root) (pl_root _ _ _ _ _ _) (hcs_length _) ?_) | (refine getfS1 HS.out Tryd.aghash rfl rfl rfl (mid := hcs root) (pl_root _ _ _ _ _ _) (hcs_length _) ?_) | (refine getfS2 HS.out Tryd.aghash rfl rfl rfl (mid := hcs root) (pl_root _ _ _ _ _ _) (hcs_length _) ?_))
    | (refine isStore rfl ?_; first | (refine setS0 HS.out Tryd.aghash rfl rfl rfl (by first | exact hvA_size _ | rfl) rfl (by first | exact hvA_size _ | rfl) (hvA_one _) ?_; intro w1 hs; clear HS; have HS := Lib.hid hs; clear hs) | (refine setS0 HS.out Tryd.aghash rfl rfl rfl (by first | exact hvA_size _ | rfl) (c := hvA zeroH) rfl (hvA_size _) (hvA_one _) ?_; intro w1 hs; clear HS; have HS := Lib.hid hs; clear hs) | (refine setS1 HS.out Tryd.aghash rfl rfl rfl (by first | exact hvA_size _ | rfl) rfl (by first | exact hvA_size _ | rfl) (hvA_one _) ?_; intro w1 hs; clear HS; have HS := Lib.hid hs; clear hs) | (refine setS1 HS.out Tryd.aghash rfl rfl rfl (by first | exact hvA_size _ | rfl) (c := hvA zeroH) rfl (hvA_size _) (hvA_one _) ?_; intro w1 hs; clear HS; have HS := Lib.hid hs; clear hs) | (refine setS2 HS.out Tryd.aghash rfl rfl rfl (by first | exact hvA_size _ | rfl) rfl (by first | exact hvA_size _ | rfl) (hvA_one _) ?_; intro w1 hs; clear HS; have HS := Lib.hid hs; clear hs) | (refine setS2 HS.out Tryd.aghash rfl rfl rfl (by first | exact hvA_size _ | rfl) (c := hvA zeroH) rfl (hvA_size _) (hvA_one _) ?_; intro w1 hs; clear HS; have HS := Lib.hid hs; clear hs)))
    refine (awake8_any _ (HL.out.below HS.out.kp) (Nat.le_trans h2 HS.out.kp.size)).mono ?_
    rintro e w9 ⟨rfl, k9⟩
    have K9 := Lib.hid (HS.out.kp.trans k9 (by simp))
    clear k9
    go_wp2
    go_ret
    exact ⟨rfl, K9.out⟩
end Go.Proofs.YtkjdnpalafldhaaDoor.proofLeads
