/-
  proof.On: does a list go on from another one? (Printed by gen_prf10.py.)
-/
import Derived.Test.YtalnkhgonfcabaaDoorPrf7
import Derived.Test.YtalnkhgonfcabaaDoorRegK
namespace Go.Proofs.YtalnkhgonfcabaaDoor
open Go.RowKit

/-- What Both tells, of whatever sizes that are right. -/
def bothAll (m n : Nat) (old : Hsh) (ps : List Hsh) : Option (Hsh × Hsh) := if m = 0 ∨ m = n then (if ps.length = 0 then some (old, old) else none) else bothR m n old ps
theorem both_all (m n : Nat) (old : Hsh) (ps : List Hsh) (a : Option Addr) (c : Nat) (w : World) (hr : Rd w a ps.length c 32 (hsc ps)) (hmn : m ≤ n) (hb : n ≤ 1152921504606846976) (hL : Laid w) (h2 : 4 ≤ w.heap.size) :
    Calls Tryd.prog 108 #[.int .i64 m, .int .i64 n, hv old, .slice a ps.length c] w fun e w' => e = .returned (bothV (bothAll m n old ps)) ∧ Kp [] w w' := by
  unfold bothAll
  by_cases h : m = 0 ∨ m = n
  · rw [if_pos h]
    by_cases hp : ps.length = 0
    · rw [if_pos hp, hp]
      exact both_ends_good m n old a c w h hmn
    · rw [if_neg hp]
      exact both_ends_bad m n old a ps.length c w h hmn (by omega)
  · rw [if_neg h]
    exact both_mid m n old ps a c w hr (by omega) (by omega) hb hL h2

def onV (m n : Nat) (old root : Hsh) : Option (Hsh × Hsh) → Int
  | none => 22
  | some (f, s) => if m = 0 ∧ old ≠ shaH [] then 22 else if m = 0 ∧ 0 < n then 0 else if f ≠ old ∨ s ≠ root then 22 else 0

theorem on_bad (m n : Int) (old root : Hsh) (v : Value) (w : World) (h : m < 0 ∨ n < m) :
    Calls Tryd.prog 64 #[.int .i64 m, .int .i64 n, hv old, hv root, v] w fun e w' => e = .returned (.int .i64 11) ∧ Kp [] w w' := by
  have HS := Lib.hid (St.start [] w)
  have HC := Lib.hid (fun W => both_bad m n old v W h)
  have tokN0 : True := trivial
  have tokN1 : True := trivial
  have tokB0 : True := trivial
  have tokB1 : True := trivial
  clear h
  go_enter Tryd.func64, Tryd.ntmps64
  go_wp2_with (first
    | (have _t := tokB0; refine boxS HS.out rfl rfl rfl (c := hvA old) rfl ?_; clear tokB0; intro g7 w1 hs; clear HS; have HS := Lib.hid hs; clear hs)
    | (have _t := tokB1; refine boxS HS.out rfl rfl rfl (c := hvA root) rfl ?_; clear tokB1; intro g8 w1 hs; clear HS; have HS := Lib.hid hs; clear hs)
    | (have _t := tokN0; refine newS HS.out Tryd.zhash rfl rfl (c := hvA zeroH) rfl ?_; clear tokN0; intro g11 w1 hs; clear HS; have HS := Lib.hid hs; clear hs)
    | (have _t := tokN1; refine newS HS.out Tryd.zhash rfl rfl (c := hvA zeroH) rfl ?_; clear tokN1; intro g12 w1 hs; clear HS; have HS := Lib.hid hs; clear hs)
    | (refine isLoad rfl ?_; first | (refine getS0 HS.out Tryd.aghash rfl rfl rfl (by first | exact hvA_size _ | rfl) ?_) | (refine cellS0 HS.out Tryd.scint rfl rfl rfl rfl ?_) | (refine cellS0 HS.out Tryd.schashes rfl rfl rfl rfl ?_) | (refine getS1 HS.out Tryd.aghash rfl rfl rfl (by first | exact hvA_size _ | rfl) ?_) | (refine cellS1 HS.out Tryd.scint rfl rfl rfl rfl ?_) | (refine cellS1 HS.out Tryd.schashes rfl rfl rfl rfl ?_))
    | (refine isStore rfl ?_; first | (refine setS0 HS.out Tryd.aghash rfl rfl rfl (by first | exact hvA_size _ | rfl) rfl (by first | exact hvA_size _ | rfl) (hvA_one _) ?_; intro w1 hs; clear HS; have HS := Lib.hid hs; clear hs) | (refine setS0 HS.out Tryd.aghash rfl rfl rfl (by first | exact hvA_size _ | rfl) (c := hvA zeroH) rfl (hvA_size _) (hvA_one _) ?_; intro w1 hs; clear HS; have HS := Lib.hid hs; clear hs) | (refine setS1 HS.out Tryd.aghash rfl rfl rfl (by first | exact hvA_size _ | rfl) rfl (by first | exact hvA_size _ | rfl) (hvA_one _) ?_; intro w1 hs; clear HS; have HS := Lib.hid hs; clear hs) | (refine setS1 HS.out Tryd.aghash rfl rfl rfl (by first | exact hvA_size _ | rfl) (c := hvA zeroH) rfl (hvA_size _) (hvA_one _) ?_; intro w1 hs; clear HS; have HS := Lib.hid hs; clear hs)))
  refine (HC.out _).mono ?_
  rintro e w1 ⟨rfl, k1⟩
  have HS := Lib.hid (HS.out.call k1)
  clear k1
  go_wp2_with (first
    | (have _t := tokN0; refine newS HS.out Tryd.zhash rfl rfl (c := hvA zeroH) rfl ?_; clear tokN0; intro g11 w1 hs; clear HS; have HS := Lib.hid hs; clear hs)
    | (have _t := tokN1; refine newS HS.out Tryd.zhash rfl rfl (c := hvA zeroH) rfl ?_; clear tokN1; intro g12 w1 hs; clear HS; have HS := Lib.hid hs; clear hs)
    | (refine isLoad rfl ?_; first | (refine getS0 HS.out Tryd.aghash rfl rfl rfl (by first | exact hvA_size _ | rfl) ?_) | (refine cellS0 HS.out Tryd.scint rfl rfl rfl rfl ?_) | (refine cellS0 HS.out Tryd.schashes rfl rfl rfl rfl ?_) | (refine getS1 HS.out Tryd.aghash rfl rfl rfl (by first | exact hvA_size _ | rfl) ?_) | (refine cellS1 HS.out Tryd.scint rfl rfl rfl rfl ?_) | (refine cellS1 HS.out Tryd.schashes rfl rfl rfl rfl ?_) | (refine getS2 HS.out Tryd.aghash rfl rfl rfl (by first | exact hvA_size _ | rfl) ?_) | (refine cellS2 HS.out Tryd.scint rfl rfl rfl rfl ?_) | (refine cellS2 HS.out Tryd.schashes rfl rfl rfl rfl ?_) | (refine getS3 HS.out Tryd.aghash rfl rfl rfl (by first | exact hvA_size _ | rfl) ?_) | (refine cellS3 HS.out Tryd.scint rfl rfl rfl rfl ?_) | (refine cellS3 HS.out Tryd.schashes rfl rfl rfl rfl ?_))
    | (refine isStore rfl ?_; first | (refine setS0 HS.out Tryd.aghash rfl rfl rfl (by first | exact hvA_size _ | rfl) rfl (by first | exact hvA_size _ | rfl) (hvA_one _) ?_; intro w1 hs; clear HS; have HS := Lib.hid hs; clear hs) | (refine setS0 HS.out Tryd.aghash rfl rfl rfl (by first | exact hvA_size _ | rfl) (c := hvA zeroH) rfl (hvA_size _) (hvA_one _) ?_; intro w1 hs; clear HS; have HS := Lib.hid hs; clear hs) | (refine setS1 HS.out Tryd.aghash rfl rfl rfl (by first | exact hvA_size _ | rfl) rfl (by first | exact hvA_size _ | rfl) (hvA_one _) ?_; intro w1 hs; clear HS; have HS := Lib.hid hs; clear hs) | (refine setS1 HS.out Tryd.aghash rfl rfl rfl (by first | exact hvA_size _ | rfl) (c := hvA zeroH) rfl (hvA_size _) (hvA_one _) ?_; intro w1 hs; clear HS; have HS := Lib.hid hs; clear hs) | (refine setS2 HS.out Tryd.aghash rfl rfl rfl (by first | exact hvA_size _ | rfl) rfl (by first | exact hvA_size _ | rfl) (hvA_one _) ?_; intro w1 hs; clear HS; have HS := Lib.hid hs; clear hs) | (refine setS2 HS.out Tryd.aghash rfl rfl rfl (by first | exact hvA_size _ | rfl) (c := hvA zeroH) rfl (hvA_size _) (hvA_one _) ?_; intro w1 hs; clear HS; have HS := Lib.hid hs; clear hs) | (refine setS3 HS.out Tryd.aghash rfl rfl rfl (by first | exact hvA_size _ | rfl) rfl (by first | exact hvA_size _ | rfl) (hvA_one _) ?_; intro w1 hs; clear HS; have HS := Lib.hid hs; clear hs) | (refine setS3 HS.out Tryd.aghash rfl rfl rfl (by first | exact hvA_size _ | rfl) (c := hvA zeroH) rfl (hvA_size _) (hvA_one _) ?_; intro w1 hs; clear HS; have HS := Lib.hid hs; clear hs)))
  go_ret
  exact ⟨rfl, HS.out.kp⟩

set_option maxRecDepth 100000 in
set_option maxHeartbeats 2000000 in
theorem on_good (m n : Nat) (old root : Hsh) (ps : List Hsh) (a : Option Addr) (c : Nat) (w : World) (hr : Rd w a ps.length c 32 (hsc ps)) (hmn : m ≤ n) (hb : n ≤ 1152921504606846976) (hL : Laid w) (h2 : 4 ≤ w.heap.size) :
    Calls Tryd.prog 64 #[.int .i64 m, .int .i64 n, hv old, hv root, .slice a ps.length c] w fun e w' => e = .returned (.int .i64 (onV m n old root (bothAll m n old ps))) ∧ Kp [] w w' := by
  have HS := Lib.hid (St.start [] w)
  have HL := Lib.hid hL
  have HC := Lib.hid (fun W (k : Kp [] w W) => both_all m n old ps a c W (hr.below k) hmn hb (hL.below k) (Nat.le_trans h2 k.size))
  obtain ⟨o, ho⟩ : ∃ o, o = bothAll m n old ps := ⟨_, rfl⟩
  rw [← ho] at HC ⊢
  have hgt : Tryd.prog.eqGuardType Tryd.prog.depth 33 = false := Tryd.eqGuardType33
  have hsum := Lib.hid (fun W (k : Kp [] w W) => sum_any none 0 [] W (nil_rd W 1) (hL.below k) (Nat.le_trans h2 k.size))
  have tokN0 : True := trivial
  have tokN1 : True := trivial
  have tokB0 : True := trivial
  have tokB1 : True := trivial
  clear ho hr hL hb
  cases o with
  | none =>
    have HV := Lib.hid (show onV m n old root none = 22 from rfl)
    rw [HV.out]
    go_enter Tryd.func64, Tryd.ntmps64
    go_wp2_with (first
    | (have _t := tokB0; refine boxS HS.out rfl rfl rfl (c := hvA old) rfl ?_; clear tokB0; intro g7 w1 hs; clear HS; have HS := Lib.hid hs; clear hs)
    | (have _t := tokB1; refine boxS HS.out rfl rfl rfl (c := hvA root) rfl ?_; clear tokB1; intro g8 w1 hs; clear HS; have HS := Lib.hid hs; clear hs)
    | (have _t := tokN0; refine newS HS.out Tryd.zhash rfl rfl (c := hvA zeroH) rfl ?_; clear tokN0; intro g11 w1 hs; clear HS; have HS := Lib.hid hs; clear hs)
    | (have _t := tokN1; refine newS HS.out Tryd.zhash rfl rfl (c := hvA zeroH) rfl ?_; clear tokN1; intro g12 w1 hs; clear HS; have HS := Lib.hid hs; clear hs)
    | (refine isLoad rfl ?_; first | (refine getS0 HS.out Tryd.aghash rfl rfl rfl (by first | exact hvA_size _ | rfl) ?_) | (refine cellS0 HS.out Tryd.scint rfl rfl rfl rfl ?_) | (refine cellS0 HS.out Tryd.schashes rfl rfl rfl rfl ?_) | (refine getS1 HS.out Tryd.aghash rfl rfl rfl (by first | exact hvA_size _ | rfl) ?_) | (refine cellS1 HS.out Tryd.scint rfl rfl rfl rfl ?_) | (refine cellS1 HS.out Tryd.schashes rfl rfl rfl rfl ?_))
    | (refine isStore rfl ?_; first | (refine setS0 HS.out Tryd.aghash rfl rfl rfl (by first | exact hvA_size _ | rfl) rfl (by first | exact hvA_size _ | rfl) (hvA_one _) ?_; intro w1 hs; clear HS; have HS := Lib.hid hs; clear hs) | (refine setS0 HS.out Tryd.aghash rfl rfl rfl (by first | exact hvA_size _ | rfl) (c := hvA zeroH) rfl (hvA_size _) (hvA_one _) ?_; intro w1 hs; clear HS; have HS := Lib.hid hs; clear hs) | (refine setS1 HS.out Tryd.aghash rfl rfl rfl (by first | exact hvA_size _ | rfl) rfl (by first | exact hvA_size _ | rfl) (hvA_one _) ?_; intro w1 hs; clear HS; have HS := Lib.hid hs; clear hs) | (refine setS1 HS.out Tryd.aghash rfl rfl rfl (by first | exact hvA_size _ | rfl) (c := hvA zeroH) rfl (hvA_size _) (hvA_one _) ?_; intro w1 hs; clear HS; have HS := Lib.hid hs; clear hs)))
    refine (HC.out _ HS.out.kp).mono ?_
    rintro e w1 ⟨rfl, k1⟩
    have HS := Lib.hid (HS.out.call k1)
    clear k1
    simp only [bothV]
    go_wp2_with (first
    | (have _t := tokN0; refine newS HS.out Tryd.zhash rfl rfl (c := hvA zeroH) rfl ?_; clear tokN0; intro g11 w1 hs; clear HS; have HS := Lib.hid hs; clear hs)
    | (have _t := tokN1; refine newS HS.out Tryd.zhash rfl rfl (c := hvA zeroH) rfl ?_; clear tokN1; intro g12 w1 hs; clear HS; have HS := Lib.hid hs; clear hs)
    | (refine isLoad rfl ?_; first | (refine getS0 HS.out Tryd.aghash rfl rfl rfl (by first | exact hvA_size _ | rfl) ?_) | (refine cellS0 HS.out Tryd.scint rfl rfl rfl rfl ?_) | (refine cellS0 HS.out Tryd.schashes rfl rfl rfl rfl ?_) | (refine getS1 HS.out Tryd.aghash rfl rfl rfl (by first | exact hvA_size _ | rfl) ?_) | (refine cellS1 HS.out Tryd.scint rfl rfl rfl rfl ?_) | (refine cellS1 HS.out Tryd.schashes rfl rfl rfl rfl ?_) | (refine getS2 HS.out Tryd.aghash rfl rfl rfl (by first | exact hvA_size _ | rfl) ?_) | (refine cellS2 HS.out Tryd.scint rfl rfl rfl rfl ?_) | (refine cellS2 HS.out Tryd.schashes rfl rfl rfl rfl ?_) | (refine getS3 HS.out Tryd.aghash rfl rfl rfl (by first | exact hvA_size _ | rfl) ?_) | (refine cellS3 HS.out Tryd.scint rfl rfl rfl rfl ?_) | (refine cellS3 HS.out Tryd.schashes rfl rfl rfl rfl ?_))
    | (refine isStore rfl ?_; first | (refine setS0 HS.out Tryd.aghash rfl rfl rfl (by first | exact hvA_size _ | rfl) rfl (by first | exact hvA_size _ | rfl) (hvA_one _) ?_; intro w1 hs; clear HS; have HS := Lib.hid hs; clear hs) | (refine setS0 HS.out Tryd.aghash rfl rfl rfl (by first | exact hvA_size _ | rfl) (c := hvA zeroH) rfl (hvA_size _) (hvA_one _) ?_; intro w1 hs; clear HS; have HS := Lib.hid hs; clear hs) | (refine setS1 HS.out Tryd.aghash rfl rfl rfl (by first | exact hvA_size _ | rfl) rfl (by first | exact hvA_size _ | rfl) (hvA_one _) ?_; intro w1 hs; clear HS; have HS := Lib.hid hs; clear hs) | (refine setS1 HS.out Tryd.aghash rfl rfl rfl (by first | exact hvA_size _ | rfl) (c := hvA zeroH) rfl (hvA_size _) (hvA_one _) ?_; intro w1 hs; clear HS; have HS := Lib.hid hs; clear hs) | (refine setS2 HS.out Tryd.aghash rfl rfl rfl (by first | exact hvA_size _ | rfl) rfl (by first | exact hvA_size _ | rfl) (hvA_one _) ?_; intro w1 hs; clear HS; have HS := Lib.hid hs; clear hs) | (refine setS2 HS.out Tryd.aghash rfl rfl rfl (by first | exact hvA_size _ | rfl) (c := hvA zeroH) rfl (hvA_size _) (hvA_one _) ?_; intro w1 hs; clear HS; have HS := Lib.hid hs; clear hs) | (refine setS3 HS.out Tryd.aghash rfl rfl rfl (by first | exact hvA_size _ | rfl) rfl (by first | exact hvA_size _ | rfl) (hvA_one _) ?_; intro w1 hs; clear HS; have HS := Lib.hid hs; clear hs) | (refine setS3 HS.out Tryd.aghash rfl rfl rfl (by first | exact hvA_size _ | rfl) (c := hvA zeroH) rfl (hvA_size _) (hvA_one _) ?_; intro w1 hs; clear HS; have HS := Lib.hid hs; clear hs)))
    go_ret
    exact ⟨rfl, HS.out.kp⟩
  | some fs =>
    obtain ⟨f, s⟩ := fs
    have hne1 : ∀ w, (Op.equalIn 10000 33 (.agg (hvA f)) (.agg (hvA old))).run Tryd.prog w = .ok (decide (f = old)) w := fun w => Tryd.equalHash w f old
    have hne2 : ∀ w, (Op.equalIn 10000 33 (.agg (hvA s)) (.agg (hvA root))).run Tryd.prog w = .ok (decide (s = root)) w := fun w => Tryd.equalHash w s root
    by_cases hm : m = 0
    · subst hm
      obtain ⟨S, hS⟩ : ∃ S, S = shaH [] := ⟨_, rfl⟩
      rw [← hS] at hsum
      have hne3 : ∀ w, (Op.equalIn 10000 33 (.agg (hvA old)) (.agg (hvA S))).run Tryd.prog w = .ok (decide (old = S)) w := fun w => Tryd.equalHash w old S
      by_cases hos : old = S
      · have hd3 : decide (old = S) = true := decide_eq_true hos
        by_cases hn : 0 < n
        · have HV := Lib.hid (show onV 0 n old root (some (f, s)) = 0 by rw [onV, if_neg (fun h => h.2 (hos.trans hS)), if_pos ⟨rfl, hn⟩])
          rw [HV.out]
          have hn1 : (n : Int) > 0 := by omega
          clear hos hS hn
          go_enter Tryd.func64, Tryd.ntmps64
          go_wp2_with (first
              | (have _t := tokB0; refine boxS HS.out rfl rfl rfl (c := hvA old) rfl ?_; clear tokB0; intro g7 w1 hs; clear HS; have HS := Lib.hid hs; clear hs)
              | (have _t := tokB1; refine boxS HS.out rfl rfl rfl (c := hvA root) rfl ?_; clear tokB1; intro g8 w1 hs; clear HS; have HS := Lib.hid hs; clear hs)
              | (have _t := tokN0; refine newS HS.out Tryd.zhash rfl rfl (c := hvA zeroH) rfl ?_; clear tokN0; intro g11 w1 hs; clear HS; have HS := Lib.hid hs; clear hs)
              | (have _t := tokN1; refine newS HS.out Tryd.zhash rfl rfl (c := hvA zeroH) rfl ?_; clear tokN1; intro g12 w1 hs; clear HS; have HS := Lib.hid hs; clear hs)
              | (refine isLoad rfl ?_; first | (refine getS0 HS.out Tryd.aghash rfl rfl rfl (by first | exact hvA_size _ | rfl) ?_) | (refine cellS0 HS.out Tryd.scint rfl rfl rfl rfl ?_) | (refine cellS0 HS.out Tryd.schashes rfl rfl rfl rfl ?_) | (refine getS1 HS.out Tryd.aghash rfl rfl rfl (by first | exact hvA_size _ | rfl) ?_) | (refine cellS1 HS.out Tryd.scint rfl rfl rfl rfl ?_) | (refine cellS1 HS.out Tryd.schashes rfl rfl rfl rfl ?_))
              | (refine isStore rfl ?_; first | (refine setS0 HS.out Tryd.aghash rfl rfl rfl (by first | exact hvA_size _ | rfl) rfl (by first | exact hvA_size _ | rfl) (hvA_one _) ?_; intro w1 hs; clear HS; have HS := Lib.hid hs; clear hs) | (refine setS0 HS.out Tryd.aghash rfl rfl rfl (by first | exact hvA_size _ | rfl) (c := hvA zeroH) rfl (hvA_size _) (hvA_one _) ?_; intro w1 hs; clear HS; have HS := Lib.hid hs; clear hs) | (refine setS1 HS.out Tryd.aghash rfl rfl rfl (by first | exact hvA_size _ | rfl) rfl (by first | exact hvA_size _ | rfl) (hvA_one _) ?_; intro w1 hs; clear HS; have HS := Lib.hid hs; clear hs) | (refine setS1 HS.out Tryd.aghash rfl rfl rfl (by first | exact hvA_size _ | rfl) (c := hvA zeroH) rfl (hvA_size _) (hvA_one _) ?_; intro w1 hs; clear HS; have HS := Lib.hid hs; clear hs)))
          refine (HC.out _ HS.out.kp).mono ?_
          rintro e w1 ⟨rfl, k1⟩
          have HS := Lib.hid (HS.out.call k1)
          clear k1
          simp only [bothV, hcsA]
          go_wp2_with (first
              | (have _t := tokN0; refine newS HS.out Tryd.zhash rfl rfl (c := hvA zeroH) rfl ?_; clear tokN0; intro g11 w1 hs; clear HS; have HS := Lib.hid hs; clear hs)
              | (have _t := tokN1; refine newS HS.out Tryd.zhash rfl rfl (c := hvA zeroH) rfl ?_; clear tokN1; intro g12 w1 hs; clear HS; have HS := Lib.hid hs; clear hs)
              | (refine isLoad rfl ?_; first | (refine getS0 HS.out Tryd.aghash rfl rfl rfl (by first | exact hvA_size _ | rfl) ?_) | (refine cellS0 HS.out Tryd.scint rfl rfl rfl rfl ?_) | (refine cellS0 HS.out Tryd.schashes rfl rfl rfl rfl ?_) | (refine getS1 HS.out Tryd.aghash rfl rfl rfl (by first | exact hvA_size _ | rfl) ?_) | (refine cellS1 HS.out Tryd.scint rfl rfl rfl rfl ?_) | (refine cellS1 HS.out Tryd.schashes rfl rfl rfl rfl ?_) | (refine getS2 HS.out Tryd.aghash rfl rfl rfl (by first | exact hvA_size _ | rfl) ?_) | (refine cellS2 HS.out Tryd.scint rfl rfl rfl rfl ?_) | (refine cellS2 HS.out Tryd.schashes rfl rfl rfl rfl ?_) | (refine getS3 HS.out Tryd.aghash rfl rfl rfl (by first | exact hvA_size _ | rfl) ?_) | (refine cellS3 HS.out Tryd.scint rfl rfl rfl rfl ?_) | (refine cellS3 HS.out Tryd.schashes rfl rfl rfl rfl ?_))
              | (refine isStore rfl ?_; first | (refine setS0 HS.out Tryd.aghash rfl rfl rfl (by first | exact hvA_size _ | rfl) rfl (by first | exact hvA_size _ | rfl) (hvA_one _) ?_; intro w1 hs; clear HS; have HS := Lib.hid hs; clear hs) | (refine setS0 HS.out Tryd.aghash rfl rfl rfl (by first | exact hvA_size _ | rfl) (c := hvA zeroH) rfl (hvA_size _) (hvA_one _) ?_; intro w1 hs; clear HS; have HS := Lib.hid hs; clear hs) | (refine setS1 HS.out Tryd.aghash rfl rfl rfl (by first | exact hvA_size _ | rfl) rfl (by first | exact hvA_size _ | rfl) (hvA_one _) ?_; intro w1 hs; clear HS; have HS := Lib.hid hs; clear hs) | (refine setS1 HS.out Tryd.aghash rfl rfl rfl (by first | exact hvA_size _ | rfl) (c := hvA zeroH) rfl (hvA_size _) (hvA_one _) ?_; intro w1 hs; clear HS; have HS := Lib.hid hs; clear hs) | (refine setS2 HS.out Tryd.aghash rfl rfl rfl (by first | exact hvA_size _ | rfl) rfl (by first | exact hvA_size _ | rfl) (hvA_one _) ?_; intro w1 hs; clear HS; have HS := Lib.hid hs; clear hs) | (refine setS2 HS.out Tryd.aghash rfl rfl rfl (by first | exact hvA_size _ | rfl) (c := hvA zeroH) rfl (hvA_size _) (hvA_one _) ?_; intro w1 hs; clear HS; have HS := Lib.hid hs; clear hs) | (refine setS3 HS.out Tryd.aghash rfl rfl rfl (by first | exact hvA_size _ | rfl) rfl (by first | exact hvA_size _ | rfl) (hvA_one _) ?_; intro w1 hs; clear HS; have HS := Lib.hid hs; clear hs) | (refine setS3 HS.out Tryd.aghash rfl rfl rfl (by first | exact hvA_size _ | rfl) (c := hvA zeroH) rfl (hvA_size _) (hvA_one _) ?_; intro w1 hs; clear HS; have HS := Lib.hid hs; clear hs)))
          have HF0 := HS.out.drew
          clear HS
          refine regionK 8 (fun W => St [] w [⟨g12, hvA s, 33⟩, ⟨g11, hvA f, 33⟩, ⟨g8, hvA root, 33⟩, ⟨g7, hvA old, 33⟩] [] W) (by kernel_rfl) HF0 (fun hHeld => ?_)
          have HF := HF0
          clear HF0
          refine takeP (i := 0) (dst := (some 28)) (v := ?_) rfl rfl (by kernel_rfl) (by kernel_rfl) (by kernel_rfl) (by decide) (fun _ _ _ h => h) (fun _ => hHeld) (Or.inl ⟨by rfl, ?_⟩) ?_
          rotate_left
          · intro w' _
            go_simp
            all_goals (with_reducible rfl)
          try simp only [Act.put, List.setIfInBounds_toArray, List.set_cons_zero, List.set_cons_succ]
          refine takeP (i := 1) (dst := (some 29)) (v := ?_) rfl rfl (by kernel_rfl) (by kernel_rfl) (by kernel_rfl) (by decide) (fun _ _ _ h => h) (fun _ => hHeld) (Or.inl ⟨by rfl, ?_⟩) ?_
          rotate_left
          · intro w' _
            go_simp
            all_goals (with_reducible rfl)
          try simp only [Act.put, List.setIfInBounds_toArray, List.set_cons_zero, List.set_cons_succ]
          refine takeP (i := 2) (dst := (some 30)) (v := ?_) rfl rfl (by kernel_rfl) (by kernel_rfl) (by kernel_rfl) (by decide) (fun _ _ _ h => h) (fun _ => hHeld) (Or.inl ⟨by rfl, ?_⟩) ?_
          rotate_left
          · intro w' _
            go_simp
            all_goals (with_reducible rfl)
          try simp only [Act.put, List.setIfInBounds_toArray, List.set_cons_zero, List.set_cons_succ]
          refine takeK (i := 3) (dst := (some 31)) rfl rfl (by kernel_rfl) (by kernel_rfl) (by kernel_rfl) (by kernel_rfl) (by kernel_rfl) (fun _ _ _ h => h) hHeld (yields_get Tryd.aghash (by rfl) rfl rfl (hcs_length _) (fun w h => h.rangeH (g := g7) (x := old) (t := 33) (by simp))) ?_
          try simp only [Act.put, List.setIfInBounds_toArray, List.set_cons_zero, List.set_cons_succ, hcsA]
          refine goK (i := 4) (dst := (some 32)) (by kernel_rfl) rfl rfl (by rfl) (fun o hop hdst => ?_)
          refine wp_callC Tryd.func69 (by kernel_rfl) (by kernel_rfl) (hop.trans rfl) (by first | rfl | (simp [Act.eval]; done) | (simp [Act.eval]; rfl) | (simp [Act.eval]; exact ⟨rfl, rfl⟩)) (hsum.out _ HF.kp) ?_
          rintro e w1 ⟨rfl, k1⟩
          refine ⟨_, rfl, fun _ => hHeld.call k1, ?_⟩
          have hHeld := hHeld.call k1
          have HF := HF.call k1
          clear k1
          simp only [hdst, Act.put, List.setIfInBounds_toArray, List.set_cons_zero, List.set_cons_succ]
          clear hop hdst o
          refine takeP (i := 5) (dst := (some 33)) (v := ?_) rfl rfl (by kernel_rfl) (by kernel_rfl) (by kernel_rfl) (by decide) (fun _ _ _ h => h) (fun _ => hHeld) (Or.inl ⟨by rfl, ?_⟩) ?_
          rotate_left
          · intro w' _
            go_simp
            all_goals (with_reducible rfl)
          try simp only [Act.put, List.setIfInBounds_toArray, List.set_cons_zero, List.set_cons_succ]
          refine takeP (i := 6) (dst := (some 34)) (v := ?_) rfl rfl (by kernel_rfl) (by kernel_rfl) (by kernel_rfl) (by decide) (fun _ _ _ h => h) (fun _ => hHeld) (Or.inl ⟨by rfl, ?_⟩) ?_
          rotate_left
          · intro w' _
            go_simp
            all_goals (with_reducible rfl)
          try simp only [Act.put, List.setIfInBounds_toArray, List.set_cons_zero, List.set_cons_succ]
          refine takeP (i := 7) (dst := (some 27)) (v := ?_) rfl rfl (by kernel_rfl) (by kernel_rfl) (by kernel_rfl) (by decide) (fun _ _ _ h => h) (fun _ => hHeld) (Or.inl ⟨by rfl, ?_⟩) ?_
          rotate_left
          · intro w' _
            go_simp
            all_goals (with_reducible rfl)
          try simp only [Act.put, List.setIfInBounds_toArray, List.set_cons_zero, List.set_cons_succ]
          refine doneK (by kernel_rfl) ?_ _
          have HS := Lib.hid HF
          clear HF hHeld
          go_wp2_with (first
              | (refine isLoad rfl ?_; first | (refine getS0 HS.out Tryd.aghash rfl rfl rfl (by first | exact hvA_size _ | rfl) ?_) | (refine cellS0 HS.out Tryd.scint rfl rfl rfl rfl ?_) | (refine cellS0 HS.out Tryd.schashes rfl rfl rfl rfl ?_) | (refine getS1 HS.out Tryd.aghash rfl rfl rfl (by first | exact hvA_size _ | rfl) ?_) | (refine cellS1 HS.out Tryd.scint rfl rfl rfl rfl ?_) | (refine cellS1 HS.out Tryd.schashes rfl rfl rfl rfl ?_) | (refine getS2 HS.out Tryd.aghash rfl rfl rfl (by first | exact hvA_size _ | rfl) ?_) | (refine cellS2 HS.out Tryd.scint rfl rfl rfl rfl ?_) | (refine cellS2 HS.out Tryd.schashes rfl rfl rfl rfl ?_) | (refine getS3 HS.out Tryd.aghash rfl rfl rfl (by first | exact hvA_size _ | rfl) ?_) | (refine cellS3 HS.out Tryd.scint rfl rfl rfl rfl ?_) | (refine cellS3 HS.out Tryd.schashes rfl rfl rfl rfl ?_))
              | (refine isStore rfl ?_; first | (refine setS0 HS.out Tryd.aghash rfl rfl rfl (by first | exact hvA_size _ | rfl) rfl (by first | exact hvA_size _ | rfl) (hvA_one _) ?_; intro w1 hs; clear HS; have HS := Lib.hid hs; clear hs) | (refine setS0 HS.out Tryd.aghash rfl rfl rfl (by first | exact hvA_size _ | rfl) (c := hvA zeroH) rfl (hvA_size _) (hvA_one _) ?_; intro w1 hs; clear HS; have HS := Lib.hid hs; clear hs) | (refine setS1 HS.out Tryd.aghash rfl rfl rfl (by first | exact hvA_size _ | rfl) rfl (by first | exact hvA_size _ | rfl) (hvA_one _) ?_; intro w1 hs; clear HS; have HS := Lib.hid hs; clear hs) | (refine setS1 HS.out Tryd.aghash rfl rfl rfl (by first | exact hvA_size _ | rfl) (c := hvA zeroH) rfl (hvA_size _) (hvA_one _) ?_; intro w1 hs; clear HS; have HS := Lib.hid hs; clear hs) | (refine setS2 HS.out Tryd.aghash rfl rfl rfl (by first | exact hvA_size _ | rfl) rfl (by first | exact hvA_size _ | rfl) (hvA_one _) ?_; intro w1 hs; clear HS; have HS := Lib.hid hs; clear hs) | (refine setS2 HS.out Tryd.aghash rfl rfl rfl (by first | exact hvA_size _ | rfl) (c := hvA zeroH) rfl (hvA_size _) (hvA_one _) ?_; intro w1 hs; clear HS; have HS := Lib.hid hs; clear hs) | (refine setS3 HS.out Tryd.aghash rfl rfl rfl (by first | exact hvA_size _ | rfl) rfl (by first | exact hvA_size _ | rfl) (hvA_one _) ?_; intro w1 hs; clear HS; have HS := Lib.hid hs; clear hs) | (refine setS3 HS.out Tryd.aghash rfl rfl rfl (by first | exact hvA_size _ | rfl) (c := hvA zeroH) rfl (hvA_size _) (hvA_one _) ?_; intro w1 hs; clear HS; have HS := Lib.hid hs; clear hs)))
          go_ret
          exact ⟨rfl, HS.out.kp⟩
        · obtain rfl : n = 0 := by omega
          by_cases hf : f = old
          · have hd1 : decide (f = old) = true := decide_eq_true hf
            by_cases hs : s = root
            · have hd2 : decide (s = root) = true := decide_eq_true hs
              have HV := Lib.hid (show onV 0 0 old root (some (f, s)) = 0 by rw [onV, if_neg (fun h => h.2 (hos.trans hS)), if_neg (fun h => by have := h.2; omega), if_neg (fun h => h.elim (fun h => h hf) (fun h => h hs))])
              rw [HV.out]
              clear hos hS hf hs
              go_enter Tryd.func64, Tryd.ntmps64
              go_wp2_with (first
                  | (have _t := tokB0; refine boxS HS.out rfl rfl rfl (c := hvA old) rfl ?_; clear tokB0; intro g7 w1 hs; clear HS; have HS := Lib.hid hs; clear hs)
                  | (have _t := tokB1; refine boxS HS.out rfl rfl rfl (c := hvA root) rfl ?_; clear tokB1; intro g8 w1 hs; clear HS; have HS := Lib.hid hs; clear hs)
                  | (have _t := tokN0; refine newS HS.out Tryd.zhash rfl rfl (c := hvA zeroH) rfl ?_; clear tokN0; intro g11 w1 hs; clear HS; have HS := Lib.hid hs; clear hs)
                  | (have _t := tokN1; refine newS HS.out Tryd.zhash rfl rfl (c := hvA zeroH) rfl ?_; clear tokN1; intro g12 w1 hs; clear HS; have HS := Lib.hid hs; clear hs)
                  | (refine isLoad rfl ?_; first | (refine getS0 HS.out Tryd.aghash rfl rfl rfl (by first | exact hvA_size _ | rfl) ?_) | (refine cellS0 HS.out Tryd.scint rfl rfl rfl rfl ?_) | (refine cellS0 HS.out Tryd.schashes rfl rfl rfl rfl ?_) | (refine getS1 HS.out Tryd.aghash rfl rfl rfl (by first | exact hvA_size _ | rfl) ?_) | (refine cellS1 HS.out Tryd.scint rfl rfl rfl rfl ?_) | (refine cellS1 HS.out Tryd.schashes rfl rfl rfl rfl ?_))
                  | (refine isStore rfl ?_; first | (refine setS0 HS.out Tryd.aghash rfl rfl rfl (by first | exact hvA_size _ | rfl) rfl (by first | exact hvA_size _ | rfl) (hvA_one _) ?_; intro w1 hs; clear HS; have HS := Lib.hid hs; clear hs) | (refine setS0 HS.out Tryd.aghash rfl rfl rfl (by first | exact hvA_size _ | rfl) (c := hvA zeroH) rfl (hvA_size _) (hvA_one _) ?_; intro w1 hs; clear HS; have HS := Lib.hid hs; clear hs) | (refine setS1 HS.out Tryd.aghash rfl rfl rfl (by first | exact hvA_size _ | rfl) rfl (by first | exact hvA_size _ | rfl) (hvA_one _) ?_; intro w1 hs; clear HS; have HS := Lib.hid hs; clear hs) | (refine setS1 HS.out Tryd.aghash rfl rfl rfl (by first | exact hvA_size _ | rfl) (c := hvA zeroH) rfl (hvA_size _) (hvA_one _) ?_; intro w1 hs; clear HS; have HS := Lib.hid hs; clear hs)))
              refine (HC.out _ HS.out.kp).mono ?_
              rintro e w1 ⟨rfl, k1⟩
              have HS := Lib.hid (HS.out.call k1)
              clear k1
              simp only [bothV, hcsA]
              go_wp2_with (first
                  | (have _t := tokN0; refine newS HS.out Tryd.zhash rfl rfl (c := hvA zeroH) rfl ?_; clear tokN0; intro g11 w1 hs; clear HS; have HS := Lib.hid hs; clear hs)
                  | (have _t := tokN1; refine newS HS.out Tryd.zhash rfl rfl (c := hvA zeroH) rfl ?_; clear tokN1; intro g12 w1 hs; clear HS; have HS := Lib.hid hs; clear hs)
                  | (refine isLoad rfl ?_; first | (refine getS0 HS.out Tryd.aghash rfl rfl rfl (by first | exact hvA_size _ | rfl) ?_) | (refine cellS0 HS.out Tryd.scint rfl rfl rfl rfl ?_) | (refine cellS0 HS.out Tryd.schashes rfl rfl rfl rfl ?_) | (refine getS1 HS.out Tryd.aghash rfl rfl rfl (by first | exact hvA_size _ | rfl) ?_) | (refine cellS1 HS.out Tryd.scint rfl rfl rfl rfl ?_) | (refine cellS1 HS.out Tryd.schashes rfl rfl rfl rfl ?_) | (refine getS2 HS.out Tryd.aghash rfl rfl rfl (by first | exact hvA_size _ | rfl) ?_) | (refine cellS2 HS.out Tryd.scint rfl rfl rfl rfl ?_) | (refine cellS2 HS.out Tryd.schashes rfl rfl rfl rfl ?_) | (refine getS3 HS.out Tryd.aghash rfl rfl rfl (by first | exact hvA_size _ | rfl) ?_) | (refine cellS3 HS.out Tryd.scint rfl rfl rfl rfl ?_) | (refine cellS3 HS.out Tryd.schashes rfl rfl rfl rfl ?_))
                  | (refine isStore rfl ?_; first | (refine setS0 HS.out Tryd.aghash rfl rfl rfl (by first | exact hvA_size _ | rfl) rfl (by first | exact hvA_size _ | rfl) (hvA_one _) ?_; intro w1 hs; clear HS; have HS := Lib.hid hs; clear hs) | (refine setS0 HS.out Tryd.aghash rfl rfl rfl (by first | exact hvA_size _ | rfl) (c := hvA zeroH) rfl (hvA_size _) (hvA_one _) ?_; intro w1 hs; clear HS; have HS := Lib.hid hs; clear hs) | (refine setS1 HS.out Tryd.aghash rfl rfl rfl (by first | exact hvA_size _ | rfl) rfl (by first | exact hvA_size _ | rfl) (hvA_one _) ?_; intro w1 hs; clear HS; have HS := Lib.hid hs; clear hs) | (refine setS1 HS.out Tryd.aghash rfl rfl rfl (by first | exact hvA_size _ | rfl) (c := hvA zeroH) rfl (hvA_size _) (hvA_one _) ?_; intro w1 hs; clear HS; have HS := Lib.hid hs; clear hs) | (refine setS2 HS.out Tryd.aghash rfl rfl rfl (by first | exact hvA_size _ | rfl) rfl (by first | exact hvA_size _ | rfl) (hvA_one _) ?_; intro w1 hs; clear HS; have HS := Lib.hid hs; clear hs) | (refine setS2 HS.out Tryd.aghash rfl rfl rfl (by first | exact hvA_size _ | rfl) (c := hvA zeroH) rfl (hvA_size _) (hvA_one _) ?_; intro w1 hs; clear HS; have HS := Lib.hid hs; clear hs) | (refine setS3 HS.out Tryd.aghash rfl rfl rfl (by first | exact hvA_size _ | rfl) rfl (by first | exact hvA_size _ | rfl) (hvA_one _) ?_; intro w1 hs; clear HS; have HS := Lib.hid hs; clear hs) | (refine setS3 HS.out Tryd.aghash rfl rfl rfl (by first | exact hvA_size _ | rfl) (c := hvA zeroH) rfl (hvA_size _) (hvA_one _) ?_; intro w1 hs; clear HS; have HS := Lib.hid hs; clear hs)))
              have HF0 := HS.out.drew
              clear HS
              refine regionK 8 (fun W => St [] w [⟨g12, hvA s, 33⟩, ⟨g11, hvA f, 33⟩, ⟨g8, hvA root, 33⟩, ⟨g7, hvA old, 33⟩] [] W) (by kernel_rfl) HF0 (fun hHeld => ?_)
              have HF := HF0
              clear HF0
              refine takeP (i := 0) (dst := (some 28)) (v := ?_) rfl rfl (by kernel_rfl) (by kernel_rfl) (by kernel_rfl) (by decide) (fun _ _ _ h => h) (fun _ => hHeld) (Or.inl ⟨by rfl, ?_⟩) ?_
              rotate_left
              · intro w' _
                go_simp
                all_goals (with_reducible rfl)
              try simp only [Act.put, List.setIfInBounds_toArray, List.set_cons_zero, List.set_cons_succ]
              refine takeP (i := 1) (dst := (some 29)) (v := ?_) rfl rfl (by kernel_rfl) (by kernel_rfl) (by kernel_rfl) (by decide) (fun _ _ _ h => h) (fun _ => hHeld) (Or.inl ⟨by rfl, ?_⟩) ?_
              rotate_left
              · intro w' _
                go_simp
                all_goals (with_reducible rfl)
              try simp only [Act.put, List.setIfInBounds_toArray, List.set_cons_zero, List.set_cons_succ]
              refine takeP (i := 2) (dst := (some 30)) (v := ?_) rfl rfl (by kernel_rfl) (by kernel_rfl) (by kernel_rfl) (by decide) (fun _ _ _ h => h) (fun _ => hHeld) (Or.inl ⟨by rfl, ?_⟩) ?_
              rotate_left
              · intro w' _
                go_simp
                all_goals (with_reducible rfl)
              try simp only [Act.put, List.setIfInBounds_toArray, List.set_cons_zero, List.set_cons_succ]
              refine takeK (i := 3) (dst := (some 31)) rfl rfl (by kernel_rfl) (by kernel_rfl) (by kernel_rfl) (by kernel_rfl) (by kernel_rfl) (fun _ _ _ h => h) hHeld (yields_get Tryd.aghash (by rfl) rfl rfl (hcs_length _) (fun w h => h.rangeH (g := g7) (x := old) (t := 33) (by simp))) ?_
              try simp only [Act.put, List.setIfInBounds_toArray, List.set_cons_zero, List.set_cons_succ, hcsA]
              refine goK (i := 4) (dst := (some 32)) (by kernel_rfl) rfl rfl (by rfl) (fun o hop hdst => ?_)
              refine wp_callC Tryd.func69 (by kernel_rfl) (by kernel_rfl) (hop.trans rfl) (by first | rfl | (simp [Act.eval]; done) | (simp [Act.eval]; rfl) | (simp [Act.eval]; exact ⟨rfl, rfl⟩)) (hsum.out _ HF.kp) ?_
              rintro e w1 ⟨rfl, k1⟩
              refine ⟨_, rfl, fun _ => hHeld.call k1, ?_⟩
              have hHeld := hHeld.call k1
              have HF := HF.call k1
              clear k1
              simp only [hdst, Act.put, List.setIfInBounds_toArray, List.set_cons_zero, List.set_cons_succ]
              clear hop hdst o
              refine takeP (i := 5) (dst := (some 33)) (v := ?_) rfl rfl (by kernel_rfl) (by kernel_rfl) (by kernel_rfl) (by decide) (fun _ _ _ h => h) (fun _ => hHeld) (Or.inl ⟨by rfl, ?_⟩) ?_
              rotate_left
              · intro w' _
                go_simp
                all_goals (with_reducible rfl)
              try simp only [Act.put, List.setIfInBounds_toArray, List.set_cons_zero, List.set_cons_succ]
              refine takeP (i := 6) (dst := (some 34)) (v := ?_) rfl rfl (by kernel_rfl) (by kernel_rfl) (by kernel_rfl) (by decide) (fun _ _ _ h => h) (fun _ => hHeld) (Or.inl ⟨by rfl, ?_⟩) ?_
              rotate_left
              · intro w' _
                go_simp
                all_goals (with_reducible rfl)
              try simp only [Act.put, List.setIfInBounds_toArray, List.set_cons_zero, List.set_cons_succ]
              refine takeP (i := 7) (dst := (some 27)) (v := ?_) rfl rfl (by kernel_rfl) (by kernel_rfl) (by kernel_rfl) (by decide) (fun _ _ _ h => h) (fun _ => hHeld) (Or.inl ⟨by rfl, ?_⟩) ?_
              rotate_left
              · intro w' _
                go_simp
                all_goals (with_reducible rfl)
              try simp only [Act.put, List.setIfInBounds_toArray, List.set_cons_zero, List.set_cons_succ]
              refine doneK (by kernel_rfl) ?_ _
              have HS := Lib.hid HF
              clear HF hHeld
              go_wp2_with (first
                  | (refine isLoad rfl ?_; first | (refine getS0 HS.out Tryd.aghash rfl rfl rfl (by first | exact hvA_size _ | rfl) ?_) | (refine cellS0 HS.out Tryd.scint rfl rfl rfl rfl ?_) | (refine cellS0 HS.out Tryd.schashes rfl rfl rfl rfl ?_) | (refine getS1 HS.out Tryd.aghash rfl rfl rfl (by first | exact hvA_size _ | rfl) ?_) | (refine cellS1 HS.out Tryd.scint rfl rfl rfl rfl ?_) | (refine cellS1 HS.out Tryd.schashes rfl rfl rfl rfl ?_) | (refine getS2 HS.out Tryd.aghash rfl rfl rfl (by first | exact hvA_size _ | rfl) ?_) | (refine cellS2 HS.out Tryd.scint rfl rfl rfl rfl ?_) | (refine cellS2 HS.out Tryd.schashes rfl rfl rfl rfl ?_) | (refine getS3 HS.out Tryd.aghash rfl rfl rfl (by first | exact hvA_size _ | rfl) ?_) | (refine cellS3 HS.out Tryd.scint rfl rfl rfl rfl ?_) | (refine cellS3 HS.out Tryd.schashes rfl rfl rfl rfl ?_))
                  | (refine isStore rfl ?_; first | (refine setS0 HS.out Tryd.aghash rfl rfl rfl (by first | exact hvA_size _ | rfl) rfl (by first | exact hvA_size _ | rfl) (hvA_one _) ?_; intro w1 hs; clear HS; have HS := Lib.hid hs; clear hs) | (refine setS0 HS.out Tryd.aghash rfl rfl rfl (by first | exact hvA_size _ | rfl) (c := hvA zeroH) rfl (hvA_size _) (hvA_one _) ?_; intro w1 hs; clear HS; have HS := Lib.hid hs; clear hs) | (refine setS1 HS.out Tryd.aghash rfl rfl rfl (by first | exact hvA_size _ | rfl) rfl (by first | exact hvA_size _ | rfl) (hvA_one _) ?_; intro w1 hs; clear HS; have HS := Lib.hid hs; clear hs) | (refine setS1 HS.out Tryd.aghash rfl rfl rfl (by first | exact hvA_size _ | rfl) (c := hvA zeroH) rfl (hvA_size _) (hvA_one _) ?_; intro w1 hs; clear HS; have HS := Lib.hid hs; clear hs) | (refine setS2 HS.out Tryd.aghash rfl rfl rfl (by first | exact hvA_size _ | rfl) rfl (by first | exact hvA_size _ | rfl) (hvA_one _) ?_; intro w1 hs; clear HS; have HS := Lib.hid hs; clear hs) | (refine setS2 HS.out Tryd.aghash rfl rfl rfl (by first | exact hvA_size _ | rfl) (c := hvA zeroH) rfl (hvA_size _) (hvA_one _) ?_; intro w1 hs; clear HS; have HS := Lib.hid hs; clear hs) | (refine setS3 HS.out Tryd.aghash rfl rfl rfl (by first | exact hvA_size _ | rfl) rfl (by first | exact hvA_size _ | rfl) (hvA_one _) ?_; intro w1 hs; clear HS; have HS := Lib.hid hs; clear hs) | (refine setS3 HS.out Tryd.aghash rfl rfl rfl (by first | exact hvA_size _ | rfl) (c := hvA zeroH) rfl (hvA_size _) (hvA_one _) ?_; intro w1 hs; clear HS; have HS := Lib.hid hs; clear hs)))
              go_ret
              exact ⟨rfl, HS.out.kp⟩
            · have hd2 : decide (s = root) = false := decide_eq_false hs
              have HV := Lib.hid (show onV 0 0 old root (some (f, s)) = 22 by rw [onV, if_neg (fun h => h.2 (hos.trans hS)), if_neg (fun h => by have := h.2; omega), if_pos (.inr hs)])
              rw [HV.out]
              clear hos hS hf hs
              go_enter Tryd.func64, Tryd.ntmps64
              go_wp2_with (first
                  | (have _t := tokB0; refine boxS HS.out rfl rfl rfl (c := hvA old) rfl ?_; clear tokB0; intro g7 w1 hs; clear HS; have HS := Lib.hid hs; clear hs)
                  | (have _t := tokB1; refine boxS HS.out rfl rfl rfl (c := hvA root) rfl ?_; clear tokB1; intro g8 w1 hs; clear HS; have HS := Lib.hid hs; clear hs)
                  | (have _t := tokN0; refine newS HS.out Tryd.zhash rfl rfl (c := hvA zeroH) rfl ?_; clear tokN0; intro g11 w1 hs; clear HS; have HS := Lib.hid hs; clear hs)
                  | (have _t := tokN1; refine newS HS.out Tryd.zhash rfl rfl (c := hvA zeroH) rfl ?_; clear tokN1; intro g12 w1 hs; clear HS; have HS := Lib.hid hs; clear hs)
                  | (refine isLoad rfl ?_; first | (refine getS0 HS.out Tryd.aghash rfl rfl rfl (by first | exact hvA_size _ | rfl) ?_) | (refine cellS0 HS.out Tryd.scint rfl rfl rfl rfl ?_) | (refine cellS0 HS.out Tryd.schashes rfl rfl rfl rfl ?_) | (refine getS1 HS.out Tryd.aghash rfl rfl rfl (by first | exact hvA_size _ | rfl) ?_) | (refine cellS1 HS.out Tryd.scint rfl rfl rfl rfl ?_) | (refine cellS1 HS.out Tryd.schashes rfl rfl rfl rfl ?_))
                  | (refine isStore rfl ?_; first | (refine setS0 HS.out Tryd.aghash rfl rfl rfl (by first | exact hvA_size _ | rfl) rfl (by first | exact hvA_size _ | rfl) (hvA_one _) ?_; intro w1 hs; clear HS; have HS := Lib.hid hs; clear hs) | (refine setS0 HS.out Tryd.aghash rfl rfl rfl (by first | exact hvA_size _ | rfl) (c := hvA zeroH) rfl (hvA_size _) (hvA_one _) ?_; intro w1 hs; clear HS; have HS := Lib.hid hs; clear hs) | (refine setS1 HS.out Tryd.aghash rfl rfl rfl (by first | exact hvA_size _ | rfl) rfl (by first | exact hvA_size _ | rfl) (hvA_one _) ?_; intro w1 hs; clear HS; have HS := Lib.hid hs; clear hs) | (refine setS1 HS.out Tryd.aghash rfl rfl rfl (by first | exact hvA_size _ | rfl) (c := hvA zeroH) rfl (hvA_size _) (hvA_one _) ?_; intro w1 hs; clear HS; have HS := Lib.hid hs; clear hs)))
              refine (HC.out _ HS.out.kp).mono ?_
              rintro e w1 ⟨rfl, k1⟩
              have HS := Lib.hid (HS.out.call k1)
              clear k1
              simp only [bothV, hcsA]
              go_wp2_with (first
                  | (have _t := tokN0; refine newS HS.out Tryd.zhash rfl rfl (c := hvA zeroH) rfl ?_; clear tokN0; intro g11 w1 hs; clear HS; have HS := Lib.hid hs; clear hs)
                  | (have _t := tokN1; refine newS HS.out Tryd.zhash rfl rfl (c := hvA zeroH) rfl ?_; clear tokN1; intro g12 w1 hs; clear HS; have HS := Lib.hid hs; clear hs)
                  | (refine isLoad rfl ?_; first | (refine getS0 HS.out Tryd.aghash rfl rfl rfl (by first | exact hvA_size _ | rfl) ?_) | (refine cellS0 HS.out Tryd.scint rfl rfl rfl rfl ?_) | (refine cellS0 HS.out Tryd.schashes rfl rfl rfl rfl ?_) | (refine getS1 HS.out Tryd.aghash rfl rfl rfl (by first | exact hvA_size _ | rfl) ?_) | (refine cellS1 HS.out Tryd.scint rfl rfl rfl rfl ?_) | (refine cellS1 HS.out Tryd.schashes rfl rfl rfl rfl ?_) | (refine getS2 HS.out Tryd.aghash rfl rfl rfl (by first | exact hvA_size _ | rfl) ?_) | (refine cellS2 HS.out Tryd.scint rfl rfl rfl rfl ?_) | (refine cellS2 HS.out Tryd.schashes rfl rfl rfl rfl ?_) | (refine getS3 HS.out Tryd.aghash rfl rfl rfl (by first | exact hvA_size _ | rfl) ?_) | (refine cellS3 HS.out Tryd.scint rfl rfl rfl rfl ?_) | (refine cellS3 HS.out Tryd.schashes rfl rfl rfl rfl ?_))
                  | (refine isStore rfl ?_; first | (refine setS0 HS.out Tryd.aghash rfl rfl rfl (by first | exact hvA_size _ | rfl) rfl (by first | exact hvA_size _ | rfl) (hvA_one _) ?_; intro w1 hs; clear HS; have HS := Lib.hid hs; clear hs) | (refine setS0 HS.out Tryd.aghash rfl rfl rfl (by first | exact hvA_size _ | rfl) (c := hvA zeroH) rfl (hvA_size _) (hvA_one _) ?_; intro w1 hs; clear HS; have HS := Lib.hid hs; clear hs) | (refine setS1 HS.out Tryd.aghash rfl rfl rfl (by first | exact hvA_size _ | rfl) rfl (by first | exact hvA_size _ | rfl) (hvA_one _) ?_; intro w1 hs; clear HS; have HS := Lib.hid hs; clear hs) | (refine setS1 HS.out Tryd.aghash rfl rfl rfl (by first | exact hvA_size _ | rfl) (c := hvA zeroH) rfl (hvA_size _) (hvA_one _) ?_; intro w1 hs; clear HS; have HS := Lib.hid hs; clear hs) | (refine setS2 HS.out Tryd.aghash rfl rfl rfl (by first | exact hvA_size _ | rfl) rfl (by first | exact hvA_size _ | rfl) (hvA_one _) ?_; intro w1 hs; clear HS; have HS := Lib.hid hs; clear hs) | (refine setS2 HS.out Tryd.aghash rfl rfl rfl (by first | exact hvA_size _ | rfl) (c := hvA zeroH) rfl (hvA_size _) (hvA_one _) ?_; intro w1 hs; clear HS; have HS := Lib.hid hs; clear hs) | (refine setS3 HS.out Tryd.aghash rfl rfl rfl (by first | exact hvA_size _ | rfl) rfl (by first | exact hvA_size _ | rfl) (hvA_one _) ?_; intro w1 hs; clear HS; have HS := Lib.hid hs; clear hs) | (refine setS3 HS.out Tryd.aghash rfl rfl rfl (by first | exact hvA_size _ | rfl) (c := hvA zeroH) rfl (hvA_size _) (hvA_one _) ?_; intro w1 hs; clear HS; have HS := Lib.hid hs; clear hs)))
              have HF0 := HS.out.drew
              clear HS
              refine regionK 8 (fun W => St [] w [⟨g12, hvA s, 33⟩, ⟨g11, hvA f, 33⟩, ⟨g8, hvA root, 33⟩, ⟨g7, hvA old, 33⟩] [] W) (by kernel_rfl) HF0 (fun hHeld => ?_)
              have HF := HF0
              clear HF0
              refine takeP (i := 0) (dst := (some 28)) (v := ?_) rfl rfl (by kernel_rfl) (by kernel_rfl) (by kernel_rfl) (by decide) (fun _ _ _ h => h) (fun _ => hHeld) (Or.inl ⟨by rfl, ?_⟩) ?_
              rotate_left
              · intro w' _
                go_simp
                all_goals (with_reducible rfl)
              try simp only [Act.put, List.setIfInBounds_toArray, List.set_cons_zero, List.set_cons_succ]
              refine takeP (i := 1) (dst := (some 29)) (v := ?_) rfl rfl (by kernel_rfl) (by kernel_rfl) (by kernel_rfl) (by decide) (fun _ _ _ h => h) (fun _ => hHeld) (Or.inl ⟨by rfl, ?_⟩) ?_
              rotate_left
              · intro w' _
                go_simp
                all_goals (with_reducible rfl)
              try simp only [Act.put, List.setIfInBounds_toArray, List.set_cons_zero, List.set_cons_succ]
              refine takeP (i := 2) (dst := (some 30)) (v := ?_) rfl rfl (by kernel_rfl) (by kernel_rfl) (by kernel_rfl) (by decide) (fun _ _ _ h => h) (fun _ => hHeld) (Or.inl ⟨by rfl, ?_⟩) ?_
              rotate_left
              · intro w' _
                go_simp
                all_goals (with_reducible rfl)
              try simp only [Act.put, List.setIfInBounds_toArray, List.set_cons_zero, List.set_cons_succ]
              refine takeK (i := 3) (dst := (some 31)) rfl rfl (by kernel_rfl) (by kernel_rfl) (by kernel_rfl) (by kernel_rfl) (by kernel_rfl) (fun _ _ _ h => h) hHeld (yields_get Tryd.aghash (by rfl) rfl rfl (hcs_length _) (fun w h => h.rangeH (g := g7) (x := old) (t := 33) (by simp))) ?_
              try simp only [Act.put, List.setIfInBounds_toArray, List.set_cons_zero, List.set_cons_succ, hcsA]
              refine goK (i := 4) (dst := (some 32)) (by kernel_rfl) rfl rfl (by rfl) (fun o hop hdst => ?_)
              refine wp_callC Tryd.func69 (by kernel_rfl) (by kernel_rfl) (hop.trans rfl) (by first | rfl | (simp [Act.eval]; done) | (simp [Act.eval]; rfl) | (simp [Act.eval]; exact ⟨rfl, rfl⟩)) (hsum.out _ HF.kp) ?_
              rintro e w1 ⟨rfl, k1⟩
              refine ⟨_, rfl, fun _ => hHeld.call k1, ?_⟩
              have hHeld := hHeld.call k1
              have HF := HF.call k1
              clear k1
              simp only [hdst, Act.put, List.setIfInBounds_toArray, List.set_cons_zero, List.set_cons_succ]
              clear hop hdst o
              refine takeP (i := 5) (dst := (some 33)) (v := ?_) rfl rfl (by kernel_rfl) (by kernel_rfl) (by kernel_rfl) (by decide) (fun _ _ _ h => h) (fun _ => hHeld) (Or.inl ⟨by rfl, ?_⟩) ?_
              rotate_left
              · intro w' _
                go_simp
                all_goals (with_reducible rfl)
              try simp only [Act.put, List.setIfInBounds_toArray, List.set_cons_zero, List.set_cons_succ]
              refine takeP (i := 6) (dst := (some 34)) (v := ?_) rfl rfl (by kernel_rfl) (by kernel_rfl) (by kernel_rfl) (by decide) (fun _ _ _ h => h) (fun _ => hHeld) (Or.inl ⟨by rfl, ?_⟩) ?_
              rotate_left
              · intro w' _
                go_simp
                all_goals (with_reducible rfl)
              try simp only [Act.put, List.setIfInBounds_toArray, List.set_cons_zero, List.set_cons_succ]
              refine takeP (i := 7) (dst := (some 27)) (v := ?_) rfl rfl (by kernel_rfl) (by kernel_rfl) (by kernel_rfl) (by decide) (fun _ _ _ h => h) (fun _ => hHeld) (Or.inl ⟨by rfl, ?_⟩) ?_
              rotate_left
              · intro w' _
                go_simp
                all_goals (with_reducible rfl)
              try simp only [Act.put, List.setIfInBounds_toArray, List.set_cons_zero, List.set_cons_succ]
              refine doneK (by kernel_rfl) ?_ _
              have HS := Lib.hid HF
              clear HF hHeld
              go_wp2_with (first
                  | (refine isLoad rfl ?_; first | (refine getS0 HS.out Tryd.aghash rfl rfl rfl (by first | exact hvA_size _ | rfl) ?_) | (refine cellS0 HS.out Tryd.scint rfl rfl rfl rfl ?_) | (refine cellS0 HS.out Tryd.schashes rfl rfl rfl rfl ?_) | (refine getS1 HS.out Tryd.aghash rfl rfl rfl (by first | exact hvA_size _ | rfl) ?_) | (refine cellS1 HS.out Tryd.scint rfl rfl rfl rfl ?_) | (refine cellS1 HS.out Tryd.schashes rfl rfl rfl rfl ?_) | (refine getS2 HS.out Tryd.aghash rfl rfl rfl (by first | exact hvA_size _ | rfl) ?_) | (refine cellS2 HS.out Tryd.scint rfl rfl rfl rfl ?_) | (refine cellS2 HS.out Tryd.schashes rfl rfl rfl rfl ?_) | (refine getS3 HS.out Tryd.aghash rfl rfl rfl (by first | exact hvA_size _ | rfl) ?_) | (refine cellS3 HS.out Tryd.scint rfl rfl rfl rfl ?_) | (refine cellS3 HS.out Tryd.schashes rfl rfl rfl rfl ?_))
                  | (refine isStore rfl ?_; first | (refine setS0 HS.out Tryd.aghash rfl rfl rfl (by first | exact hvA_size _ | rfl) rfl (by first | exact hvA_size _ | rfl) (hvA_one _) ?_; intro w1 hs; clear HS; have HS := Lib.hid hs; clear hs) | (refine setS0 HS.out Tryd.aghash rfl rfl rfl (by first | exact hvA_size _ | rfl) (c := hvA zeroH) rfl (hvA_size _) (hvA_one _) ?_; intro w1 hs; clear HS; have HS := Lib.hid hs; clear hs) | (refine setS1 HS.out Tryd.aghash rfl rfl rfl (by first | exact hvA_size _ | rfl) rfl (by first | exact hvA_size _ | rfl) (hvA_one _) ?_; intro w1 hs; clear HS; have HS := Lib.hid hs; clear hs) | (refine setS1 HS.out Tryd.aghash rfl rfl rfl (by first | exact hvA_size _ | rfl) (c := hvA zeroH) rfl (hvA_size _) (hvA_one _) ?_; intro w1 hs; clear HS; have HS := Lib.hid hs; clear hs) | (refine setS2 HS.out Tryd.aghash rfl rfl rfl (by first | exact hvA_size _ | rfl) rfl (by first | exact hvA_size _ | rfl) (hvA_one _) ?_; intro w1 hs; clear HS; have HS := Lib.hid hs; clear hs) | (refine setS2 HS.out Tryd.aghash rfl rfl rfl (by first | exact hvA_size _ | rfl) (c := hvA zeroH) rfl (hvA_size _) (hvA_one _) ?_; intro w1 hs; clear HS; have HS := Lib.hid hs; clear hs) | (refine setS3 HS.out Tryd.aghash rfl rfl rfl (by first | exact hvA_size _ | rfl) rfl (by first | exact hvA_size _ | rfl) (hvA_one _) ?_; intro w1 hs; clear HS; have HS := Lib.hid hs; clear hs) | (refine setS3 HS.out Tryd.aghash rfl rfl rfl (by first | exact hvA_size _ | rfl) (c := hvA zeroH) rfl (hvA_size _) (hvA_one _) ?_; intro w1 hs; clear HS; have HS := Lib.hid hs; clear hs)))
              go_ret
              exact ⟨rfl, HS.out.kp⟩
          · have hd1 : decide (f = old) = false := decide_eq_false hf
            have HV := Lib.hid (show onV 0 0 old root (some (f, s)) = 22 by rw [onV, if_neg (fun h => h.2 (hos.trans hS)), if_neg (fun h => by have := h.2; omega), if_pos (.inl hf)])
            rw [HV.out]
            clear hos hS hf
            go_enter Tryd.func64, Tryd.ntmps64
            go_wp2_with (first
                | (have _t := tokB0; refine boxS HS.out rfl rfl rfl (c := hvA old) rfl ?_; clear tokB0; intro g7 w1 hs; clear HS; have HS := Lib.hid hs; clear hs)
                | (have _t := tokB1; refine boxS HS.out rfl rfl rfl (c := hvA root) rfl ?_; clear tokB1; intro g8 w1 hs; clear HS; have HS := Lib.hid hs; clear hs)
                | (have _t := tokN0; refine newS HS.out Tryd.zhash rfl rfl (c := hvA zeroH) rfl ?_; clear tokN0; intro g11 w1 hs; clear HS; have HS := Lib.hid hs; clear hs)
                | (have _t := tokN1; refine newS HS.out Tryd.zhash rfl rfl (c := hvA zeroH) rfl ?_; clear tokN1; intro g12 w1 hs; clear HS; have HS := Lib.hid hs; clear hs)
                | (refine isLoad rfl ?_; first | (refine getS0 HS.out Tryd.aghash rfl rfl rfl (by first | exact hvA_size _ | rfl) ?_) | (refine cellS0 HS.out Tryd.scint rfl rfl rfl rfl ?_) | (refine cellS0 HS.out Tryd.schashes rfl rfl rfl rfl ?_) | (refine getS1 HS.out Tryd.aghash rfl rfl rfl (by first | exact hvA_size _ | rfl) ?_) | (refine cellS1 HS.out Tryd.scint rfl rfl rfl rfl ?_) | (refine cellS1 HS.out Tryd.schashes rfl rfl rfl rfl ?_))
                | (refine isStore rfl ?_; first | (refine setS0 HS.out Tryd.aghash rfl rfl rfl (by first | exact hvA_size _ | rfl) rfl (by first | exact hvA_size _ | rfl) (hvA_one _) ?_; intro w1 hs; clear HS; have HS := Lib.hid hs; clear hs) | (refine setS0 HS.out Tryd.aghash rfl rfl rfl (by first | exact hvA_size _ | rfl) (c := hvA zeroH) rfl (hvA_size _) (hvA_one _) ?_; intro w1 hs; clear HS; have HS := Lib.hid hs; clear hs) | (refine setS1 HS.out Tryd.aghash rfl rfl rfl (by first | exact hvA_size _ | rfl) rfl (by first | exact hvA_size _ | rfl) (hvA_one _) ?_; intro w1 hs; clear HS; have HS := Lib.hid hs; clear hs) | (refine setS1 HS.out Tryd.aghash rfl rfl rfl (by first | exact hvA_size _ | rfl) (c := hvA zeroH) rfl (hvA_size _) (hvA_one _) ?_; intro w1 hs; clear HS; have HS := Lib.hid hs; clear hs)))
            refine (HC.out _ HS.out.kp).mono ?_
            rintro e w1 ⟨rfl, k1⟩
            have HS := Lib.hid (HS.out.call k1)
            clear k1
            simp only [bothV, hcsA]
            go_wp2_with (first
                | (have _t := tokN0; refine newS HS.out Tryd.zhash rfl rfl (c := hvA zeroH) rfl ?_; clear tokN0; intro g11 w1 hs; clear HS; have HS := Lib.hid hs; clear hs)
                | (have _t := tokN1; refine newS HS.out Tryd.zhash rfl rfl (c := hvA zeroH) rfl ?_; clear tokN1; intro g12 w1 hs; clear HS; have HS := Lib.hid hs; clear hs)
                | (refine isLoad rfl ?_; first | (refine getS0 HS.out Tryd.aghash rfl rfl rfl (by first | exact hvA_size _ | rfl) ?_) | (refine cellS0 HS.out Tryd.scint rfl rfl rfl rfl ?_) | (refine cellS0 HS.out Tryd.schashes rfl rfl rfl rfl ?_) | (refine getS1 HS.out Tryd.aghash rfl rfl rfl (by first | exact hvA_size _ | rfl) ?_) | (refine cellS1 HS.out Tryd.scint rfl rfl rfl rfl ?_) | (refine cellS1 HS.out Tryd.schashes rfl rfl rfl rfl ?_) | (refine getS2 HS.out Tryd.aghash rfl rfl rfl (by first | exact hvA_size _ | rfl) ?_) | (refine cellS2 HS.out Tryd.scint rfl rfl rfl rfl ?_) | (refine cellS2 HS.out Tryd.schashes rfl rfl rfl rfl ?_) | (refine getS3 HS.out Tryd.aghash rfl rfl rfl (by first | exact hvA_size _ | rfl) ?_) | (refine cellS3 HS.out Tryd.scint rfl rfl rfl rfl ?_) | (refine cellS3 HS.out Tryd.schashes rfl rfl rfl rfl ?_))
                | (refine isStore rfl ?_; first | (refine setS0 HS.out Tryd.aghash rfl rfl rfl (by first | exact hvA_size _ | rfl) rfl (by first | exact hvA_size _ | rfl) (hvA_one _) ?_; intro w1 hs; clear HS; have HS := Lib.hid hs; clear hs) | (refine setS0 HS.out Tryd.aghash rfl rfl rfl (by first | exact hvA_size _ | rfl) (c := hvA zeroH) rfl (hvA_size _) (hvA_one _) ?_; intro w1 hs; clear HS; have HS := Lib.hid hs; clear hs) | (refine setS1 HS.out Tryd.aghash rfl rfl rfl (by first | exact hvA_size _ | rfl) rfl (by first | exact hvA_size _ | rfl) (hvA_one _) ?_; intro w1 hs; clear HS; have HS := Lib.hid hs; clear hs) | (refine setS1 HS.out Tryd.aghash rfl rfl rfl (by first | exact hvA_size _ | rfl) (c := hvA zeroH) rfl (hvA_size _) (hvA_one _) ?_; intro w1 hs; clear HS; have HS := Lib.hid hs; clear hs) | (refine setS2 HS.out Tryd.aghash rfl rfl rfl (by first | exact hvA_size _ | rfl) rfl (by first | exact hvA_size _ | rfl) (hvA_one _) ?_; intro w1 hs; clear HS; have HS := Lib.hid hs; clear hs) | (refine setS2 HS.out Tryd.aghash rfl rfl rfl (by first | exact hvA_size _ | rfl) (c := hvA zeroH) rfl (hvA_size _) (hvA_one _) ?_; intro w1 hs; clear HS; have HS := Lib.hid hs; clear hs) | (refine setS3 HS.out Tryd.aghash rfl rfl rfl (by first | exact hvA_size _ | rfl) rfl (by first | exact hvA_size _ | rfl) (hvA_one _) ?_; intro w1 hs; clear HS; have HS := Lib.hid hs; clear hs) | (refine setS3 HS.out Tryd.aghash rfl rfl rfl (by first | exact hvA_size _ | rfl) (c := hvA zeroH) rfl (hvA_size _) (hvA_one _) ?_; intro w1 hs; clear HS; have HS := Lib.hid hs; clear hs)))
            have HF0 := HS.out.drew
            clear HS
            refine regionK 8 (fun W => St [] w [⟨g12, hvA s, 33⟩, ⟨g11, hvA f, 33⟩, ⟨g8, hvA root, 33⟩, ⟨g7, hvA old, 33⟩] [] W) (by kernel_rfl) HF0 (fun hHeld => ?_)
            have HF := HF0
            clear HF0
            refine takeP (i := 0) (dst := (some 28)) (v := ?_) rfl rfl (by kernel_rfl) (by kernel_rfl) (by kernel_rfl) (by decide) (fun _ _ _ h => h) (fun _ => hHeld) (Or.inl ⟨by rfl, ?_⟩) ?_
            rotate_left
            · intro w' _
              go_simp
              all_goals (with_reducible rfl)
            try simp only [Act.put, List.setIfInBounds_toArray, List.set_cons_zero, List.set_cons_succ]
            refine takeP (i := 1) (dst := (some 29)) (v := ?_) rfl rfl (by kernel_rfl) (by kernel_rfl) (by kernel_rfl) (by decide) (fun _ _ _ h => h) (fun _ => hHeld) (Or.inl ⟨by rfl, ?_⟩) ?_
            rotate_left
            · intro w' _
              go_simp
              all_goals (with_reducible rfl)
            try simp only [Act.put, List.setIfInBounds_toArray, List.set_cons_zero, List.set_cons_succ]
            refine takeP (i := 2) (dst := (some 30)) (v := ?_) rfl rfl (by kernel_rfl) (by kernel_rfl) (by kernel_rfl) (by decide) (fun _ _ _ h => h) (fun _ => hHeld) (Or.inl ⟨by rfl, ?_⟩) ?_
            rotate_left
            · intro w' _
              go_simp
              all_goals (with_reducible rfl)
            try simp only [Act.put, List.setIfInBounds_toArray, List.set_cons_zero, List.set_cons_succ]
            refine takeK (i := 3) (dst := (some 31)) rfl rfl (by kernel_rfl) (by kernel_rfl) (by kernel_rfl) (by kernel_rfl) (by kernel_rfl) (fun _ _ _ h => h) hHeld (yields_get Tryd.aghash (by rfl) rfl rfl (hcs_length _) (fun w h => h.rangeH (g := g7) (x := old) (t := 33) (by simp))) ?_
            try simp only [Act.put, List.setIfInBounds_toArray, List.set_cons_zero, List.set_cons_succ, hcsA]
            refine goK (i := 4) (dst := (some 32)) (by kernel_rfl) rfl rfl (by rfl) (fun o hop hdst => ?_)
            refine wp_callC Tryd.func69 (by kernel_rfl) (by kernel_rfl) (hop.trans rfl) (by first | rfl | (simp [Act.eval]; done) | (simp [Act.eval]; rfl) | (simp [Act.eval]; exact ⟨rfl, rfl⟩)) (hsum.out _ HF.kp) ?_
            rintro e w1 ⟨rfl, k1⟩
            refine ⟨_, rfl, fun _ => hHeld.call k1, ?_⟩
            have hHeld := hHeld.call k1
            have HF := HF.call k1
            clear k1
            simp only [hdst, Act.put, List.setIfInBounds_toArray, List.set_cons_zero, List.set_cons_succ]
            clear hop hdst o
            refine takeP (i := 5) (dst := (some 33)) (v := ?_) rfl rfl (by kernel_rfl) (by kernel_rfl) (by kernel_rfl) (by decide) (fun _ _ _ h => h) (fun _ => hHeld) (Or.inl ⟨by rfl, ?_⟩) ?_
            rotate_left
            · intro w' _
              go_simp
              all_goals (with_reducible rfl)
            try simp only [Act.put, List.setIfInBounds_toArray, List.set_cons_zero, List.set_cons_succ]
            refine takeP (i := 6) (dst := (some 34)) (v := ?_) rfl rfl (by kernel_rfl) (by kernel_rfl) (by kernel_rfl) (by decide) (fun _ _ _ h => h) (fun _ => hHeld) (Or.inl ⟨by rfl, ?_⟩) ?_
            rotate_left
            · intro w' _
              go_simp
              all_goals (with_reducible rfl)
            try simp only [Act.put, List.setIfInBounds_toArray, List.set_cons_zero, List.set_cons_succ]
            refine takeP (i := 7) (dst := (some 27)) (v := ?_) rfl rfl (by kernel_rfl) (by kernel_rfl) (by kernel_rfl) (by decide) (fun _ _ _ h => h) (fun _ => hHeld) (Or.inl ⟨by rfl, ?_⟩) ?_
            rotate_left
            · intro w' _
              go_simp
              all_goals (with_reducible rfl)
            try simp only [Act.put, List.setIfInBounds_toArray, List.set_cons_zero, List.set_cons_succ]
            refine doneK (by kernel_rfl) ?_ _
            have HS := Lib.hid HF
            clear HF hHeld
            go_wp2_with (first
                | (refine isLoad rfl ?_; first | (refine getS0 HS.out Tryd.aghash rfl rfl rfl (by first | exact hvA_size _ | rfl) ?_) | (refine cellS0 HS.out Tryd.scint rfl rfl rfl rfl ?_) | (refine cellS0 HS.out Tryd.schashes rfl rfl rfl rfl ?_) | (refine getS1 HS.out Tryd.aghash rfl rfl rfl (by first | exact hvA_size _ | rfl) ?_) | (refine cellS1 HS.out Tryd.scint rfl rfl rfl rfl ?_) | (refine cellS1 HS.out Tryd.schashes rfl rfl rfl rfl ?_) | (refine getS2 HS.out Tryd.aghash rfl rfl rfl (by first | exact hvA_size _ | rfl) ?_) | (refine cellS2 HS.out Tryd.scint rfl rfl rfl rfl ?_) | (refine cellS2 HS.out Tryd.schashes rfl rfl rfl rfl ?_) | (refine getS3 HS.out Tryd.aghash rfl rfl rfl (by first | exact hvA_size _ | rfl) ?_) | (refine cellS3 HS.out Tryd.scint rfl rfl rfl rfl ?_) | (refine cellS3 HS.out Tryd.schashes rfl rfl rfl rfl ?_))
                | (refine isStore rfl ?_; first | (refine setS0 HS.out Tryd.aghash rfl rfl rfl (by first | exact hvA_size _ | rfl) rfl (by first | exact hvA_size _ | rfl) (hvA_one _) ?_; intro w1 hs; clear HS; have HS := Lib.hid hs; clear hs) | (refine setS0 HS.out Tryd.aghash rfl rfl rfl (by first | exact hvA_size _ | rfl) (c := hvA zeroH) rfl (hvA_size _) (hvA_one _) ?_; intro w1 hs; clear HS; have HS := Lib.hid hs; clear hs) | (refine setS1 HS.out Tryd.aghash rfl rfl rfl (by first | exact hvA_size _ | rfl) rfl (by first | exact hvA_size _ | rfl) (hvA_one _) ?_; intro w1 hs; clear HS; have HS := Lib.hid hs; clear hs) | (refine setS1 HS.out Tryd.aghash rfl rfl rfl (by first | exact hvA_size _ | rfl) (c := hvA zeroH) rfl (hvA_size _) (hvA_one _) ?_; intro w1 hs; clear HS; have HS := Lib.hid hs; clear hs) | (refine setS2 HS.out Tryd.aghash rfl rfl rfl (by first | exact hvA_size _ | rfl) rfl (by first | exact hvA_size _ | rfl) (hvA_one _) ?_; intro w1 hs; clear HS; have HS := Lib.hid hs; clear hs) | (refine setS2 HS.out Tryd.aghash rfl rfl rfl (by first | exact hvA_size _ | rfl) (c := hvA zeroH) rfl (hvA_size _) (hvA_one _) ?_; intro w1 hs; clear HS; have HS := Lib.hid hs; clear hs) | (refine setS3 HS.out Tryd.aghash rfl rfl rfl (by first | exact hvA_size _ | rfl) rfl (by first | exact hvA_size _ | rfl) (hvA_one _) ?_; intro w1 hs; clear HS; have HS := Lib.hid hs; clear hs) | (refine setS3 HS.out Tryd.aghash rfl rfl rfl (by first | exact hvA_size _ | rfl) (c := hvA zeroH) rfl (hvA_size _) (hvA_one _) ?_; intro w1 hs; clear HS; have HS := Lib.hid hs; clear hs)))
            go_ret
            exact ⟨rfl, HS.out.kp⟩
      · have HV := Lib.hid (show onV 0 n old root (some (f, s)) = 22 by rw [onV, if_pos ⟨rfl, by rw [← hS]; exact hos⟩])
        rw [HV.out]
        have hd3 : decide (old = S) = false := decide_eq_false hos
        clear hos hS
        go_enter Tryd.func64, Tryd.ntmps64
        go_wp2_with (first
            | (have _t := tokB0; refine boxS HS.out rfl rfl rfl (c := hvA old) rfl ?_; clear tokB0; intro g7 w1 hs; clear HS; have HS := Lib.hid hs; clear hs)
            | (have _t := tokB1; refine boxS HS.out rfl rfl rfl (c := hvA root) rfl ?_; clear tokB1; intro g8 w1 hs; clear HS; have HS := Lib.hid hs; clear hs)
            | (have _t := tokN0; refine newS HS.out Tryd.zhash rfl rfl (c := hvA zeroH) rfl ?_; clear tokN0; intro g11 w1 hs; clear HS; have HS := Lib.hid hs; clear hs)
            | (have _t := tokN1; refine newS HS.out Tryd.zhash rfl rfl (c := hvA zeroH) rfl ?_; clear tokN1; intro g12 w1 hs; clear HS; have HS := Lib.hid hs; clear hs)
            | (refine isLoad rfl ?_; first | (refine getS0 HS.out Tryd.aghash rfl rfl rfl (by first | exact hvA_size _ | rfl) ?_) | (refine cellS0 HS.out Tryd.scint rfl rfl rfl rfl ?_) | (refine cellS0 HS.out Tryd.schashes rfl rfl rfl rfl ?_) | (refine getS1 HS.out Tryd.aghash rfl rfl rfl (by first | exact hvA_size _ | rfl) ?_) | (refine cellS1 HS.out Tryd.scint rfl rfl rfl rfl ?_) | (refine cellS1 HS.out Tryd.schashes rfl rfl rfl rfl ?_))
            | (refine isStore rfl ?_; first | (refine setS0 HS.out Tryd.aghash rfl rfl rfl (by first | exact hvA_size _ | rfl) rfl (by first | exact hvA_size _ | rfl) (hvA_one _) ?_; intro w1 hs; clear HS; have HS := Lib.hid hs; clear hs) | (refine setS0 HS.out Tryd.aghash rfl rfl rfl (by first | exact hvA_size _ | rfl) (c := hvA zeroH) rfl (hvA_size _) (hvA_one _) ?_; intro w1 hs; clear HS; have HS := Lib.hid hs; clear hs) | (refine setS1 HS.out Tryd.aghash rfl rfl rfl (by first | exact hvA_size _ | rfl) rfl (by first | exact hvA_size _ | rfl) (hvA_one _) ?_; intro w1 hs; clear HS; have HS := Lib.hid hs; clear hs) | (refine setS1 HS.out Tryd.aghash rfl rfl rfl (by first | exact hvA_size _ | rfl) (c := hvA zeroH) rfl (hvA_size _) (hvA_one _) ?_; intro w1 hs; clear HS; have HS := Lib.hid hs; clear hs)))
        refine (HC.out _ HS.out.kp).mono ?_
        rintro e w1 ⟨rfl, k1⟩
        have HS := Lib.hid (HS.out.call k1)
        clear k1
        simp only [bothV, hcsA]
        go_wp2_with (first
            | (have _t := tokN0; refine newS HS.out Tryd.zhash rfl rfl (c := hvA zeroH) rfl ?_; clear tokN0; intro g11 w1 hs; clear HS; have HS := Lib.hid hs; clear hs)
            | (have _t := tokN1; refine newS HS.out Tryd.zhash rfl rfl (c := hvA zeroH) rfl ?_; clear tokN1; intro g12 w1 hs; clear HS; have HS := Lib.hid hs; clear hs)
            | (refine isLoad rfl ?_; first | (refine getS0 HS.out Tryd.aghash rfl rfl rfl (by first | exact hvA_size _ | rfl) ?_) | (refine cellS0 HS.out Tryd.scint rfl rfl rfl rfl ?_) | (refine cellS0 HS.out Tryd.schashes rfl rfl rfl rfl ?_) | (refine getS1 HS.out Tryd.aghash rfl rfl rfl (by first | exact hvA_size _ | rfl) ?_) | (refine cellS1 HS.out Tryd.scint rfl rfl rfl rfl ?_) | (refine cellS1 HS.out Tryd.schashes rfl rfl rfl rfl ?_) | (refine getS2 HS.out Tryd.aghash rfl rfl rfl (by first | exact hvA_size _ | rfl) ?_) | (refine cellS2 HS.out Tryd.scint rfl rfl rfl rfl ?_) | (refine cellS2 HS.out Tryd.schashes rfl rfl rfl rfl ?_) | (refine getS3 HS.out Tryd.aghash rfl rfl rfl (by first | exact hvA_size _ | rfl) ?_) | (refine cellS3 HS.out Tryd.scint rfl rfl rfl rfl ?_) | (refine cellS3 HS.out Tryd.schashes rfl rfl rfl rfl ?_))
            | (refine isStore rfl ?_; first | (refine setS0 HS.out Tryd.aghash rfl rfl rfl (by first | exact hvA_size _ | rfl) rfl (by first | exact hvA_size _ | rfl) (hvA_one _) ?_; intro w1 hs; clear HS; have HS := Lib.hid hs; clear hs) | (refine setS0 HS.out Tryd.aghash rfl rfl rfl (by first | exact hvA_size _ | rfl) (c := hvA zeroH) rfl (hvA_size _) (hvA_one _) ?_; intro w1 hs; clear HS; have HS := Lib.hid hs; clear hs) | (refine setS1 HS.out Tryd.aghash rfl rfl rfl (by first | exact hvA_size _ | rfl) rfl (by first | exact hvA_size _ | rfl) (hvA_one _) ?_; intro w1 hs; clear HS; have HS := Lib.hid hs; clear hs) | (refine setS1 HS.out Tryd.aghash rfl rfl rfl (by first | exact hvA_size _ | rfl) (c := hvA zeroH) rfl (hvA_size _) (hvA_one _) ?_; intro w1 hs; clear HS; have HS := Lib.hid hs; clear hs) | (refine setS2 HS.out Tryd.aghash rfl rfl rfl (by first | exact hvA_size _ | rfl) rfl (by first | exact hvA_size _ | rfl) (hvA_one _) ?_; intro w1 hs; clear HS; have HS := Lib.hid hs; clear hs) | (refine setS2 HS.out Tryd.aghash rfl rfl rfl (by first | exact hvA_size _ | rfl) (c := hvA zeroH) rfl (hvA_size _) (hvA_one _) ?_; intro w1 hs; clear HS; have HS := Lib.hid hs; clear hs) | (refine setS3 HS.out Tryd.aghash rfl rfl rfl (by first | exact hvA_size _ | rfl) rfl (by first | exact hvA_size _ | rfl) (hvA_one _) ?_; intro w1 hs; clear HS; have HS := Lib.hid hs; clear hs) | (refine setS3 HS.out Tryd.aghash rfl rfl rfl (by first | exact hvA_size _ | rfl) (c := hvA zeroH) rfl (hvA_size _) (hvA_one _) ?_; intro w1 hs; clear HS; have HS := Lib.hid hs; clear hs)))
        have HF0 := HS.out.drew
        clear HS
        refine regionK 8 (fun W => St [] w [⟨g12, hvA s, 33⟩, ⟨g11, hvA f, 33⟩, ⟨g8, hvA root, 33⟩, ⟨g7, hvA old, 33⟩] [] W) (by kernel_rfl) HF0 (fun hHeld => ?_)
        have HF := HF0
        clear HF0
        refine takeP (i := 0) (dst := (some 28)) (v := ?_) rfl rfl (by kernel_rfl) (by kernel_rfl) (by kernel_rfl) (by decide) (fun _ _ _ h => h) (fun _ => hHeld) (Or.inl ⟨by rfl, ?_⟩) ?_
        rotate_left
        · intro w' _
          go_simp
          all_goals (with_reducible rfl)
        try simp only [Act.put, List.setIfInBounds_toArray, List.set_cons_zero, List.set_cons_succ]
        refine takeP (i := 1) (dst := (some 29)) (v := ?_) rfl rfl (by kernel_rfl) (by kernel_rfl) (by kernel_rfl) (by decide) (fun _ _ _ h => h) (fun _ => hHeld) (Or.inl ⟨by rfl, ?_⟩) ?_
        rotate_left
        · intro w' _
          go_simp
          all_goals (with_reducible rfl)
        try simp only [Act.put, List.setIfInBounds_toArray, List.set_cons_zero, List.set_cons_succ]
        refine takeP (i := 2) (dst := (some 30)) (v := ?_) rfl rfl (by kernel_rfl) (by kernel_rfl) (by kernel_rfl) (by decide) (fun _ _ _ h => h) (fun _ => hHeld) (Or.inl ⟨by rfl, ?_⟩) ?_
        rotate_left
        · intro w' _
          go_simp
          all_goals (with_reducible rfl)
        try simp only [Act.put, List.setIfInBounds_toArray, List.set_cons_zero, List.set_cons_succ]
        refine takeK (i := 3) (dst := (some 31)) rfl rfl (by kernel_rfl) (by kernel_rfl) (by kernel_rfl) (by kernel_rfl) (by kernel_rfl) (fun _ _ _ h => h) hHeld (yields_get Tryd.aghash (by rfl) rfl rfl (hcs_length _) (fun w h => h.rangeH (g := g7) (x := old) (t := 33) (by simp))) ?_
        try simp only [Act.put, List.setIfInBounds_toArray, List.set_cons_zero, List.set_cons_succ, hcsA]
        refine goK (i := 4) (dst := (some 32)) (by kernel_rfl) rfl rfl (by rfl) (fun o hop hdst => ?_)
        refine wp_callC Tryd.func69 (by kernel_rfl) (by kernel_rfl) (hop.trans rfl) (by first | rfl | (simp [Act.eval]; done) | (simp [Act.eval]; rfl) | (simp [Act.eval]; exact ⟨rfl, rfl⟩)) (hsum.out _ HF.kp) ?_
        rintro e w1 ⟨rfl, k1⟩
        refine ⟨_, rfl, fun _ => hHeld.call k1, ?_⟩
        have hHeld := hHeld.call k1
        have HF := HF.call k1
        clear k1
        simp only [hdst, Act.put, List.setIfInBounds_toArray, List.set_cons_zero, List.set_cons_succ]
        clear hop hdst o
        refine takeP (i := 5) (dst := (some 33)) (v := ?_) rfl rfl (by kernel_rfl) (by kernel_rfl) (by kernel_rfl) (by decide) (fun _ _ _ h => h) (fun _ => hHeld) (Or.inl ⟨by rfl, ?_⟩) ?_
        rotate_left
        · intro w' _
          go_simp
          all_goals (with_reducible rfl)
        try simp only [Act.put, List.setIfInBounds_toArray, List.set_cons_zero, List.set_cons_succ]
        refine takeP (i := 6) (dst := (some 34)) (v := ?_) rfl rfl (by kernel_rfl) (by kernel_rfl) (by kernel_rfl) (by decide) (fun _ _ _ h => h) (fun _ => hHeld) (Or.inl ⟨by rfl, ?_⟩) ?_
        rotate_left
        · intro w' _
          go_simp
          all_goals (with_reducible rfl)
        try simp only [Act.put, List.setIfInBounds_toArray, List.set_cons_zero, List.set_cons_succ]
        refine takeP (i := 7) (dst := (some 27)) (v := ?_) rfl rfl (by kernel_rfl) (by kernel_rfl) (by kernel_rfl) (by decide) (fun _ _ _ h => h) (fun _ => hHeld) (Or.inl ⟨by rfl, ?_⟩) ?_
        rotate_left
        · intro w' _
          go_simp
          all_goals (with_reducible rfl)
        try simp only [Act.put, List.setIfInBounds_toArray, List.set_cons_zero, List.set_cons_succ]
        refine doneK (by kernel_rfl) ?_ _
        have HS := Lib.hid HF
        clear HF hHeld
        go_wp2_with (first
            | (refine isLoad rfl ?_; first | (refine getS0 HS.out Tryd.aghash rfl rfl rfl (by first | exact hvA_size _ | rfl) ?_) | (refine cellS0 HS.out Tryd.scint rfl rfl rfl rfl ?_) | (refine cellS0 HS.out Tryd.schashes rfl rfl rfl rfl ?_) | (refine getS1 HS.out Tryd.aghash rfl rfl rfl (by first | exact hvA_size _ | rfl) ?_) | (refine cellS1 HS.out Tryd.scint rfl rfl rfl rfl ?_) | (refine cellS1 HS.out Tryd.schashes rfl rfl rfl rfl ?_) | (refine getS2 HS.out Tryd.aghash rfl rfl rfl (by first | exact hvA_size _ | rfl) ?_) | (refine cellS2 HS.out Tryd.scint rfl rfl rfl rfl ?_) | (refine cellS2 HS.out Tryd.schashes rfl rfl rfl rfl ?_) | (refine getS3 HS.out Tryd.aghash rfl rfl rfl (by first | exact hvA_size _ | rfl) ?_) | (refine cellS3 HS.out Tryd.scint rfl rfl rfl rfl ?_) | (refine cellS3 HS.out Tryd.schashes rfl rfl rfl rfl ?_))
            | (refine isStore rfl ?_; first | (refine setS0 HS.out Tryd.aghash rfl rfl rfl (by first | exact hvA_size _ | rfl) rfl (by first | exact hvA_size _ | rfl) (hvA_one _) ?_; intro w1 hs; clear HS; have HS := Lib.hid hs; clear hs) | (refine setS0 HS.out Tryd.aghash rfl rfl rfl (by first | exact hvA_size _ | rfl) (c := hvA zeroH) rfl (hvA_size _) (hvA_one _) ?_; intro w1 hs; clear HS; have HS := Lib.hid hs; clear hs) | (refine setS1 HS.out Tryd.aghash rfl rfl rfl (by first | exact hvA_size _ | rfl) rfl (by first | exact hvA_size _ | rfl) (hvA_one _) ?_; intro w1 hs; clear HS; have HS := Lib.hid hs; clear hs) | (refine setS1 HS.out Tryd.aghash rfl rfl rfl (by first | exact hvA_size _ | rfl) (c := hvA zeroH) rfl (hvA_size _) (hvA_one _) ?_; intro w1 hs; clear HS; have HS := Lib.hid hs; clear hs) | (refine setS2 HS.out Tryd.aghash rfl rfl rfl (by first | exact hvA_size _ | rfl) rfl (by first | exact hvA_size _ | rfl) (hvA_one _) ?_; intro w1 hs; clear HS; have HS := Lib.hid hs; clear hs) | (refine setS2 HS.out Tryd.aghash rfl rfl rfl (by first | exact hvA_size _ | rfl) (c := hvA zeroH) rfl (hvA_size _) (hvA_one _) ?_; intro w1 hs; clear HS; have HS := Lib.hid hs; clear hs) | (refine setS3 HS.out Tryd.aghash rfl rfl rfl (by first | exact hvA_size _ | rfl) rfl (by first | exact hvA_size _ | rfl) (hvA_one _) ?_; intro w1 hs; clear HS; have HS := Lib.hid hs; clear hs) | (refine setS3 HS.out Tryd.aghash rfl rfl rfl (by first | exact hvA_size _ | rfl) (c := hvA zeroH) rfl (hvA_size _) (hvA_one _) ?_; intro w1 hs; clear HS; have HS := Lib.hid hs; clear hs)))
        go_ret
        exact ⟨rfl, HS.out.kp⟩
    · have hm1 : ((m : Int) == 0) = false := by rw [beq_eq_false_iff_ne]; omega
      by_cases hf : f = old
      · have hd1 : decide (f = old) = true := decide_eq_true hf
        by_cases hs : s = root
        · have hd2 : decide (s = root) = true := decide_eq_true hs
          have HV := Lib.hid (show onV m n old root (some (f, s)) = 0 by rw [onV, if_neg (fun h => hm h.1), if_neg (fun h => hm h.1), if_neg (fun h => h.elim (fun h => h hf) (fun h => h hs))])
          rw [HV.out]
          clear hm hf hs
          go_enter Tryd.func64, Tryd.ntmps64
          go_wp2_with (first
              | (have _t := tokB0; refine boxS HS.out rfl rfl rfl (c := hvA old) rfl ?_; clear tokB0; intro g7 w1 hs; clear HS; have HS := Lib.hid hs; clear hs)
              | (have _t := tokB1; refine boxS HS.out rfl rfl rfl (c := hvA root) rfl ?_; clear tokB1; intro g8 w1 hs; clear HS; have HS := Lib.hid hs; clear hs)
              | (have _t := tokN0; refine newS HS.out Tryd.zhash rfl rfl (c := hvA zeroH) rfl ?_; clear tokN0; intro g11 w1 hs; clear HS; have HS := Lib.hid hs; clear hs)
              | (have _t := tokN1; refine newS HS.out Tryd.zhash rfl rfl (c := hvA zeroH) rfl ?_; clear tokN1; intro g12 w1 hs; clear HS; have HS := Lib.hid hs; clear hs)
              | (refine isLoad rfl ?_; first | (refine getS0 HS.out Tryd.aghash rfl rfl rfl (by first | exact hvA_size _ | rfl) ?_) | (refine cellS0 HS.out Tryd.scint rfl rfl rfl rfl ?_) | (refine cellS0 HS.out Tryd.schashes rfl rfl rfl rfl ?_) | (refine getS1 HS.out Tryd.aghash rfl rfl rfl (by first | exact hvA_size _ | rfl) ?_) | (refine cellS1 HS.out Tryd.scint rfl rfl rfl rfl ?_) | (refine cellS1 HS.out Tryd.schashes rfl rfl rfl rfl ?_))
              | (refine isStore rfl ?_; first | (refine setS0 HS.out Tryd.aghash rfl rfl rfl (by first | exact hvA_size _ | rfl) rfl (by first | exact hvA_size _ | rfl) (hvA_one _) ?_; intro w1 hs; clear HS; have HS := Lib.hid hs; clear hs) | (refine setS0 HS.out Tryd.aghash rfl rfl rfl (by first | exact hvA_size _ | rfl) (c := hvA zeroH) rfl (hvA_size _) (hvA_one _) ?_; intro w1 hs; clear HS; have HS := Lib.hid hs; clear hs) | (refine setS1 HS.out Tryd.aghash rfl rfl rfl (by first | exact hvA_size _ | rfl) rfl (by first | exact hvA_size _ | rfl) (hvA_one _) ?_; intro w1 hs; clear HS; have HS := Lib.hid hs; clear hs) | (refine setS1 HS.out Tryd.aghash rfl rfl rfl (by first | exact hvA_size _ | rfl) (c := hvA zeroH) rfl (hvA_size _) (hvA_one _) ?_; intro w1 hs; clear HS; have HS := Lib.hid hs; clear hs)))
          refine (HC.out _ HS.out.kp).mono ?_
          rintro e w1 ⟨rfl, k1⟩
          have HS := Lib.hid (HS.out.call k1)
          clear k1
          simp only [bothV, hcsA]
          go_wp2_with (first
              | (have _t := tokN0; refine newS HS.out Tryd.zhash rfl rfl (c := hvA zeroH) rfl ?_; clear tokN0; intro g11 w1 hs; clear HS; have HS := Lib.hid hs; clear hs)
              | (have _t := tokN1; refine newS HS.out Tryd.zhash rfl rfl (c := hvA zeroH) rfl ?_; clear tokN1; intro g12 w1 hs; clear HS; have HS := Lib.hid hs; clear hs)
              | (refine isLoad rfl ?_; first | (refine getS0 HS.out Tryd.aghash rfl rfl rfl (by first | exact hvA_size _ | rfl) ?_) | (refine cellS0 HS.out Tryd.scint rfl rfl rfl rfl ?_) | (refine cellS0 HS.out Tryd.schashes rfl rfl rfl rfl ?_) | (refine getS1 HS.out Tryd.aghash rfl rfl rfl (by first | exact hvA_size _ | rfl) ?_) | (refine cellS1 HS.out Tryd.scint rfl rfl rfl rfl ?_) | (refine cellS1 HS.out Tryd.schashes rfl rfl rfl rfl ?_) | (refine getS2 HS.out Tryd.aghash rfl rfl rfl (by first | exact hvA_size _ | rfl) ?_) | (refine cellS2 HS.out Tryd.scint rfl rfl rfl rfl ?_) | (refine cellS2 HS.out Tryd.schashes rfl rfl rfl rfl ?_) | (refine getS3 HS.out Tryd.aghash rfl rfl rfl (by first | exact hvA_size _ | rfl) ?_) | (refine cellS3 HS.out Tryd.scint rfl rfl rfl rfl ?_) | (refine cellS3 HS.out Tryd.schashes rfl rfl rfl rfl ?_))
              | (refine isStore rfl ?_; first | (refine setS0 HS.out Tryd.aghash rfl rfl rfl (by first | exact hvA_size _ | rfl) rfl (by first | exact hvA_size _ | rfl) (hvA_one _) ?_; intro w1 hs; clear HS; have HS := Lib.hid hs; clear hs) | (refine setS0 HS.out Tryd.aghash rfl rfl rfl (by first | exact hvA_size _ | rfl) (c := hvA zeroH) rfl (hvA_size _) (hvA_one _) ?_; intro w1 hs; clear HS; have HS := Lib.hid hs; clear hs) | (refine setS1 HS.out Tryd.aghash rfl rfl rfl (by first | exact hvA_size _ | rfl) rfl (by first | exact hvA_size _ | rfl) (hvA_one _) ?_; intro w1 hs; clear HS; have HS := Lib.hid hs; clear hs) | (refine setS1 HS.out Tryd.aghash rfl rfl rfl (by first | exact hvA_size _ | rfl) (c := hvA zeroH) rfl (hvA_size _) (hvA_one _) ?_; intro w1 hs; clear HS; have HS := Lib.hid hs; clear hs) | (refine setS2 HS.out Tryd.aghash rfl rfl rfl (by first | exact hvA_size _ | rfl) rfl (by first | exact hvA_size _ | rfl) (hvA_one _) ?_; intro w1 hs; clear HS; have HS := Lib.hid hs; clear hs) | (refine setS2 HS.out Tryd.aghash rfl rfl rfl (by first | exact hvA_size _ | rfl) (c := hvA zeroH) rfl (hvA_size _) (hvA_one _) ?_; intro w1 hs; clear HS; have HS := Lib.hid hs; clear hs) | (refine setS3 HS.out Tryd.aghash rfl rfl rfl (by first | exact hvA_size _ | rfl) rfl (by first | exact hvA_size _ | rfl) (hvA_one _) ?_; intro w1 hs; clear HS; have HS := Lib.hid hs; clear hs) | (refine setS3 HS.out Tryd.aghash rfl rfl rfl (by first | exact hvA_size _ | rfl) (c := hvA zeroH) rfl (hvA_size _) (hvA_one _) ?_; intro w1 hs; clear HS; have HS := Lib.hid hs; clear hs)))
          have HF0 := HS.out.drew
          clear HS
          refine regionK 8 (fun W => St [] w [⟨g12, hvA s, 33⟩, ⟨g11, hvA f, 33⟩, ⟨g8, hvA root, 33⟩, ⟨g7, hvA old, 33⟩] [] W) (by kernel_rfl) HF0 (fun hHeld => ?_)
          have HF := HF0
          clear HF0
          refine takeP (i := 0) (dst := (some 28)) (v := ?_) rfl rfl (by kernel_rfl) (by kernel_rfl) (by kernel_rfl) (by decide) (fun _ _ _ h => h) (fun _ => hHeld) (Or.inl ⟨by rfl, ?_⟩) ?_
          rotate_left
          · intro w' _
            go_simp
            all_goals (with_reducible rfl)
          try simp only [Act.put, List.setIfInBounds_toArray, List.set_cons_zero, List.set_cons_succ]
          refine takeP (i := 1) (dst := (some 29)) (v := ?_) rfl rfl (by kernel_rfl) (by kernel_rfl) (by kernel_rfl) (by decide) (fun _ _ _ h => h) (fun _ => hHeld) (Or.inl ⟨by rfl, ?_⟩) ?_
          rotate_left
          · intro w' _
            go_simp
            all_goals (with_reducible rfl)
          try simp only [Act.put, List.setIfInBounds_toArray, List.set_cons_zero, List.set_cons_succ]
          refine takeP (i := 2) (dst := (some 30)) (v := ?_) rfl rfl (by kernel_rfl) (by kernel_rfl) (by kernel_rfl) (by decide) (fun _ _ _ h => h) (fun _ => hHeld) (Or.inl ⟨by rfl, ?_⟩) ?_
          rotate_left
          · intro w' _
            go_simp
            all_goals (with_reducible rfl)
          try simp only [Act.put, List.setIfInBounds_toArray, List.set_cons_zero, List.set_cons_succ]
          refine takeP (i := 3) (dst := (some 31)) (v := undef) rfl rfl (by kernel_rfl) (by kernel_rfl) (by kernel_rfl) (by decide) (fun _ _ _ h => h) (fun _ => hHeld) (yields_off (by rfl)) ?_
          try simp only [Act.put, List.setIfInBounds_toArray, List.set_cons_zero, List.set_cons_succ]
          refine takeP (i := 4) (dst := (some 32)) (v := undef) rfl rfl (by kernel_rfl) (by kernel_rfl) (by kernel_rfl) (by decide) (fun _ _ _ h => h) (fun _ => hHeld) (yields_off (by rfl)) ?_
          try simp only [Act.put, List.setIfInBounds_toArray, List.set_cons_zero, List.set_cons_succ]
          refine takeP (i := 5) (dst := (some 33)) (v := undef) rfl rfl (by kernel_rfl) (by kernel_rfl) (by kernel_rfl) (by decide) (fun _ _ _ h => h) (fun _ => hHeld) (yields_off (by rfl)) ?_
          try simp only [Act.put, List.setIfInBounds_toArray, List.set_cons_zero, List.set_cons_succ]
          refine takeP (i := 6) (dst := (some 34)) (v := ?_) rfl rfl (by kernel_rfl) (by kernel_rfl) (by kernel_rfl) (by decide) (fun _ _ _ h => h) (fun _ => hHeld) (Or.inl ⟨by rfl, ?_⟩) ?_
          rotate_left
          · intro w' _
            go_simp
            all_goals (with_reducible rfl)
          try simp only [Act.put, List.setIfInBounds_toArray, List.set_cons_zero, List.set_cons_succ]
          refine takeP (i := 7) (dst := (some 27)) (v := ?_) rfl rfl (by kernel_rfl) (by kernel_rfl) (by kernel_rfl) (by decide) (fun _ _ _ h => h) (fun _ => hHeld) (Or.inl ⟨by rfl, ?_⟩) ?_
          rotate_left
          · intro w' _
            go_simp
            all_goals (with_reducible rfl)
          try simp only [Act.put, List.setIfInBounds_toArray, List.set_cons_zero, List.set_cons_succ]
          refine doneK (by kernel_rfl) ?_ _
          have HS := Lib.hid HF
          clear HF hHeld
          go_wp2_with (first
              | (refine isLoad rfl ?_; first | (refine getS0 HS.out Tryd.aghash rfl rfl rfl (by first | exact hvA_size _ | rfl) ?_) | (refine cellS0 HS.out Tryd.scint rfl rfl rfl rfl ?_) | (refine cellS0 HS.out Tryd.schashes rfl rfl rfl rfl ?_) | (refine getS1 HS.out Tryd.aghash rfl rfl rfl (by first | exact hvA_size _ | rfl) ?_) | (refine cellS1 HS.out Tryd.scint rfl rfl rfl rfl ?_) | (refine cellS1 HS.out Tryd.schashes rfl rfl rfl rfl ?_) | (refine getS2 HS.out Tryd.aghash rfl rfl rfl (by first | exact hvA_size _ | rfl) ?_) | (refine cellS2 HS.out Tryd.scint rfl rfl rfl rfl ?_) | (refine cellS2 HS.out Tryd.schashes rfl rfl rfl rfl ?_) | (refine getS3 HS.out Tryd.aghash rfl rfl rfl (by first | exact hvA_size _ | rfl) ?_) | (refine cellS3 HS.out Tryd.scint rfl rfl rfl rfl ?_) | (refine cellS3 HS.out Tryd.schashes rfl rfl rfl rfl ?_))
              | (refine isStore rfl ?_; first | (refine setS0 HS.out Tryd.aghash rfl rfl rfl (by first | exact hvA_size _ | rfl) rfl (by first | exact hvA_size _ | rfl) (hvA_one _) ?_; intro w1 hs; clear HS; have HS := Lib.hid hs; clear hs) | (refine setS0 HS.out Tryd.aghash rfl rfl rfl (by first | exact hvA_size _ | rfl) (c := hvA zeroH) rfl (hvA_size _) (hvA_one _) ?_; intro w1 hs; clear HS; have HS := Lib.hid hs; clear hs) | (refine setS1 HS.out Tryd.aghash rfl rfl rfl (by first | exact hvA_size _ | rfl) rfl (by first | exact hvA_size _ | rfl) (hvA_one _) ?_; intro w1 hs; clear HS; have HS := Lib.hid hs; clear hs) | (refine setS1 HS.out Tryd.aghash rfl rfl rfl (by first | exact hvA_size _ | rfl) (c := hvA zeroH) rfl (hvA_size _) (hvA_one _) ?_; intro w1 hs; clear HS; have HS := Lib.hid hs; clear hs) | (refine setS2 HS.out Tryd.aghash rfl rfl rfl (by first | exact hvA_size _ | rfl) rfl (by first | exact hvA_size _ | rfl) (hvA_one _) ?_; intro w1 hs; clear HS; have HS := Lib.hid hs; clear hs) | (refine setS2 HS.out Tryd.aghash rfl rfl rfl (by first | exact hvA_size _ | rfl) (c := hvA zeroH) rfl (hvA_size _) (hvA_one _) ?_; intro w1 hs; clear HS; have HS := Lib.hid hs; clear hs) | (refine setS3 HS.out Tryd.aghash rfl rfl rfl (by first | exact hvA_size _ | rfl) rfl (by first | exact hvA_size _ | rfl) (hvA_one _) ?_; intro w1 hs; clear HS; have HS := Lib.hid hs; clear hs) | (refine setS3 HS.out Tryd.aghash rfl rfl rfl (by first | exact hvA_size _ | rfl) (c := hvA zeroH) rfl (hvA_size _) (hvA_one _) ?_; intro w1 hs; clear HS; have HS := Lib.hid hs; clear hs)))
          go_ret
          exact ⟨rfl, HS.out.kp⟩
        · have hd2 : decide (s = root) = false := decide_eq_false hs
          have HV := Lib.hid (show onV m n old root (some (f, s)) = 22 by rw [onV, if_neg (fun h => hm h.1), if_neg (fun h => hm h.1), if_pos (.inr hs)])
          rw [HV.out]
          clear hm hf hs
          go_enter Tryd.func64, Tryd.ntmps64
          go_wp2_with (first
              | (have _t := tokB0; refine boxS HS.out rfl rfl rfl (c := hvA old) rfl ?_; clear tokB0; intro g7 w1 hs; clear HS; have HS := Lib.hid hs; clear hs)
              | (have _t := tokB1; refine boxS HS.out rfl rfl rfl (c := hvA root) rfl ?_; clear tokB1; intro g8 w1 hs; clear HS; have HS := Lib.hid hs; clear hs)
              | (have _t := tokN0; refine newS HS.out Tryd.zhash rfl rfl (c := hvA zeroH) rfl ?_; clear tokN0; intro g11 w1 hs; clear HS; have HS := Lib.hid hs; clear hs)
              | (have _t := tokN1; refine newS HS.out Tryd.zhash rfl rfl (c := hvA zeroH) rfl ?_; clear tokN1; intro g12 w1 hs; clear HS; have HS := Lib.hid hs; clear hs)
              | (refine isLoad rfl ?_; first | (refine getS0 HS.out Tryd.aghash rfl rfl rfl (by first | exact hvA_size _ | rfl) ?_) | (refine cellS0 HS.out Tryd.scint rfl rfl rfl rfl ?_) | (refine cellS0 HS.out Tryd.schashes rfl rfl rfl rfl ?_) | (refine getS1 HS.out Tryd.aghash rfl rfl rfl (by first | exact hvA_size _ | rfl) ?_) | (refine cellS1 HS.out Tryd.scint rfl rfl rfl rfl ?_) | (refine cellS1 HS.out Tryd.schashes rfl rfl rfl rfl ?_))
              | (refine isStore rfl ?_; first | (refine setS0 HS.out Tryd.aghash rfl rfl rfl (by first | exact hvA_size _ | rfl) rfl (by first | exact hvA_size _ | rfl) (hvA_one _) ?_; intro w1 hs; clear HS; have HS := Lib.hid hs; clear hs) | (refine setS0 HS.out Tryd.aghash rfl rfl rfl (by first | exact hvA_size _ | rfl) (c := hvA zeroH) rfl (hvA_size _) (hvA_one _) ?_; intro w1 hs; clear HS; have HS := Lib.hid hs; clear hs) | (refine setS1 HS.out Tryd.aghash rfl rfl rfl (by first | exact hvA_size _ | rfl) rfl (by first | exact hvA_size _ | rfl) (hvA_one _) ?_; intro w1 hs; clear HS; have HS := Lib.hid hs; clear hs) | (refine setS1 HS.out Tryd.aghash rfl rfl rfl (by first | exact hvA_size _ | rfl) (c := hvA zeroH) rfl (hvA_size _) (hvA_one _) ?_; intro w1 hs; clear HS; have HS := Lib.hid hs; clear hs)))
          refine (HC.out _ HS.out.kp).mono ?_
          rintro e w1 ⟨rfl, k1⟩
          have HS := Lib.hid (HS.out.call k1)
          clear k1
          simp only [bothV, hcsA]
          go_wp2_with (first
              | (have _t := tokN0; refine newS HS.out Tryd.zhash rfl rfl (c := hvA zeroH) rfl ?_; clear tokN0; intro g11 w1 hs; clear HS; have HS := Lib.hid hs; clear hs)
              | (have _t := tokN1; refine newS HS.out Tryd.zhash rfl rfl (c := hvA zeroH) rfl ?_; clear tokN1; intro g12 w1 hs; clear HS; have HS := Lib.hid hs; clear hs)
              | (refine isLoad rfl ?_; first | (refine getS0 HS.out Tryd.aghash rfl rfl rfl (by first | exact hvA_size _ | rfl) ?_) | (refine cellS0 HS.out Tryd.scint rfl rfl rfl rfl ?_) | (refine cellS0 HS.out Tryd.schashes rfl rfl rfl rfl ?_) | (refine getS1 HS.out Tryd.aghash rfl rfl rfl (by first | exact hvA_size _ | rfl) ?_) | (refine cellS1 HS.out Tryd.scint rfl rfl rfl rfl ?_) | (refine cellS1 HS.out Tryd.schashes rfl rfl rfl rfl ?_) | (refine getS2 HS.out Tryd.aghash rfl rfl rfl (by first | exact hvA_size _ | rfl) ?_) | (refine cellS2 HS.out Tryd.scint rfl rfl rfl rfl ?_) | (refine cellS2 HS.out Tryd.schashes rfl rfl rfl rfl ?_) | (refine getS3 HS.out Tryd.aghash rfl rfl rfl (by first | exact hvA_size _ | rfl) ?_) | (refine cellS3 HS.out Tryd.scint rfl rfl rfl rfl ?_) | (refine cellS3 HS.out Tryd.schashes rfl rfl rfl rfl ?_))
              | (refine isStore rfl ?_; first | (refine setS0 HS.out Tryd.aghash rfl rfl rfl (by first | exact hvA_size _ | rfl) rfl (by first | exact hvA_size _ | rfl) (hvA_one _) ?_; intro w1 hs; clear HS; have HS := Lib.hid hs; clear hs) | (refine setS0 HS.out Tryd.aghash rfl rfl rfl (by first | exact hvA_size _ | rfl) (c := hvA zeroH) rfl (hvA_size _) (hvA_one _) ?_; intro w1 hs; clear HS; have HS := Lib.hid hs; clear hs) | (refine setS1 HS.out Tryd.aghash rfl rfl rfl (by first | exact hvA_size _ | rfl) rfl (by first | exact hvA_size _ | rfl) (hvA_one _) ?_; intro w1 hs; clear HS; have HS := Lib.hid hs; clear hs) | (refine setS1 HS.out Tryd.aghash rfl rfl rfl (by first | exact hvA_size _ | rfl) (c := hvA zeroH) rfl (hvA_size _) (hvA_one _) ?_; intro w1 hs; clear HS; have HS := Lib.hid hs; clear hs) | (refine setS2 HS.out Tryd.aghash rfl rfl rfl (by first | exact hvA_size _ | rfl) rfl (by first | exact hvA_size _ | rfl) (hvA_one _) ?_; intro w1 hs; clear HS; have HS := Lib.hid hs; clear hs) | (refine setS2 HS.out Tryd.aghash rfl rfl rfl (by first | exact hvA_size _ | rfl) (c := hvA zeroH) rfl (hvA_size _) (hvA_one _) ?_; intro w1 hs; clear HS; have HS := Lib.hid hs; clear hs) | (refine setS3 HS.out Tryd.aghash rfl rfl rfl (by first | exact hvA_size _ | rfl) rfl (by first | exact hvA_size _ | rfl) (hvA_one _) ?_; intro w1 hs; clear HS; have HS := Lib.hid hs; clear hs) | (refine setS3 HS.out Tryd.aghash rfl rfl rfl (by first | exact hvA_size _ | rfl) (c := hvA zeroH) rfl (hvA_size _) (hvA_one _) ?_; intro w1 hs; clear HS; have HS := Lib.hid hs; clear hs)))
          have HF0 := HS.out.drew
          clear HS
          refine regionK 8 (fun W => St [] w [⟨g12, hvA s, 33⟩, ⟨g11, hvA f, 33⟩, ⟨g8, hvA root, 33⟩, ⟨g7, hvA old, 33⟩] [] W) (by kernel_rfl) HF0 (fun hHeld => ?_)
          have HF := HF0
          clear HF0
          refine takeP (i := 0) (dst := (some 28)) (v := ?_) rfl rfl (by kernel_rfl) (by kernel_rfl) (by kernel_rfl) (by decide) (fun _ _ _ h => h) (fun _ => hHeld) (Or.inl ⟨by rfl, ?_⟩) ?_
          rotate_left
          · intro w' _
            go_simp
            all_goals (with_reducible rfl)
          try simp only [Act.put, List.setIfInBounds_toArray, List.set_cons_zero, List.set_cons_succ]
          refine takeP (i := 1) (dst := (some 29)) (v := ?_) rfl rfl (by kernel_rfl) (by kernel_rfl) (by kernel_rfl) (by decide) (fun _ _ _ h => h) (fun _ => hHeld) (Or.inl ⟨by rfl, ?_⟩) ?_
          rotate_left
          · intro w' _
            go_simp
            all_goals (with_reducible rfl)
          try simp only [Act.put, List.setIfInBounds_toArray, List.set_cons_zero, List.set_cons_succ]
          refine takeP (i := 2) (dst := (some 30)) (v := ?_) rfl rfl (by kernel_rfl) (by kernel_rfl) (by kernel_rfl) (by decide) (fun _ _ _ h => h) (fun _ => hHeld) (Or.inl ⟨by rfl, ?_⟩) ?_
          rotate_left
          · intro w' _
            go_simp
            all_goals (with_reducible rfl)
          try simp only [Act.put, List.setIfInBounds_toArray, List.set_cons_zero, List.set_cons_succ]
          refine takeP (i := 3) (dst := (some 31)) (v := undef) rfl rfl (by kernel_rfl) (by kernel_rfl) (by kernel_rfl) (by decide) (fun _ _ _ h => h) (fun _ => hHeld) (yields_off (by rfl)) ?_
          try simp only [Act.put, List.setIfInBounds_toArray, List.set_cons_zero, List.set_cons_succ]
          refine takeP (i := 4) (dst := (some 32)) (v := undef) rfl rfl (by kernel_rfl) (by kernel_rfl) (by kernel_rfl) (by decide) (fun _ _ _ h => h) (fun _ => hHeld) (yields_off (by rfl)) ?_
          try simp only [Act.put, List.setIfInBounds_toArray, List.set_cons_zero, List.set_cons_succ]
          refine takeP (i := 5) (dst := (some 33)) (v := undef) rfl rfl (by kernel_rfl) (by kernel_rfl) (by kernel_rfl) (by decide) (fun _ _ _ h => h) (fun _ => hHeld) (yields_off (by rfl)) ?_
          try simp only [Act.put, List.setIfInBounds_toArray, List.set_cons_zero, List.set_cons_succ]
          refine takeP (i := 6) (dst := (some 34)) (v := ?_) rfl rfl (by kernel_rfl) (by kernel_rfl) (by kernel_rfl) (by decide) (fun _ _ _ h => h) (fun _ => hHeld) (Or.inl ⟨by rfl, ?_⟩) ?_
          rotate_left
          · intro w' _
            go_simp
            all_goals (with_reducible rfl)
          try simp only [Act.put, List.setIfInBounds_toArray, List.set_cons_zero, List.set_cons_succ]
          refine takeP (i := 7) (dst := (some 27)) (v := ?_) rfl rfl (by kernel_rfl) (by kernel_rfl) (by kernel_rfl) (by decide) (fun _ _ _ h => h) (fun _ => hHeld) (Or.inl ⟨by rfl, ?_⟩) ?_
          rotate_left
          · intro w' _
            go_simp
            all_goals (with_reducible rfl)
          try simp only [Act.put, List.setIfInBounds_toArray, List.set_cons_zero, List.set_cons_succ]
          refine doneK (by kernel_rfl) ?_ _
          have HS := Lib.hid HF
          clear HF hHeld
          go_wp2_with (first
              | (refine isLoad rfl ?_; first | (refine getS0 HS.out Tryd.aghash rfl rfl rfl (by first | exact hvA_size _ | rfl) ?_) | (refine cellS0 HS.out Tryd.scint rfl rfl rfl rfl ?_) | (refine cellS0 HS.out Tryd.schashes rfl rfl rfl rfl ?_) | (refine getS1 HS.out Tryd.aghash rfl rfl rfl (by first | exact hvA_size _ | rfl) ?_) | (refine cellS1 HS.out Tryd.scint rfl rfl rfl rfl ?_) | (refine cellS1 HS.out Tryd.schashes rfl rfl rfl rfl ?_) | (refine getS2 HS.out Tryd.aghash rfl rfl rfl (by first | exact hvA_size _ | rfl) ?_) | (refine cellS2 HS.out Tryd.scint rfl rfl rfl rfl ?_) | (refine cellS2 HS.out Tryd.schashes rfl rfl rfl rfl ?_) | (refine getS3 HS.out Tryd.aghash rfl rfl rfl (by first | exact hvA_size _ | rfl) ?_) | (refine cellS3 HS.out Tryd.scint rfl rfl rfl rfl ?_) | (refine cellS3 HS.out Tryd.schashes rfl rfl rfl rfl ?_))
              | (refine isStore rfl ?_; first | (refine setS0 HS.out Tryd.aghash rfl rfl rfl (by first | exact hvA_size _ | rfl) rfl (by first | exact hvA_size _ | rfl) (hvA_one _) ?_; intro w1 hs; clear HS; have HS := Lib.hid hs; clear hs) | (refine setS0 HS.out Tryd.aghash rfl rfl rfl (by first | exact hvA_size _ | rfl) (c := hvA zeroH) rfl (hvA_size _) (hvA_one _) ?_; intro w1 hs; clear HS; have HS := Lib.hid hs; clear hs) | (refine setS1 HS.out Tryd.aghash rfl rfl rfl (by first | exact hvA_size _ | rfl) rfl (by first | exact hvA_size _ | rfl) (hvA_one _) ?_; intro w1 hs; clear HS; have HS := Lib.hid hs; clear hs) | (refine setS1 HS.out Tryd.aghash rfl rfl rfl (by first | exact hvA_size _ | rfl) (c := hvA zeroH) rfl (hvA_size _) (hvA_one _) ?_; intro w1 hs; clear HS; have HS := Lib.hid hs; clear hs) | (refine setS2 HS.out Tryd.aghash rfl rfl rfl (by first | exact hvA_size _ | rfl) rfl (by first | exact hvA_size _ | rfl) (hvA_one _) ?_; intro w1 hs; clear HS; have HS := Lib.hid hs; clear hs) | (refine setS2 HS.out Tryd.aghash rfl rfl rfl (by first | exact hvA_size _ | rfl) (c := hvA zeroH) rfl (hvA_size _) (hvA_one _) ?_; intro w1 hs; clear HS; have HS := Lib.hid hs; clear hs) | (refine setS3 HS.out Tryd.aghash rfl rfl rfl (by first | exact hvA_size _ | rfl) rfl (by first | exact hvA_size _ | rfl) (hvA_one _) ?_; intro w1 hs; clear HS; have HS := Lib.hid hs; clear hs) | (refine setS3 HS.out Tryd.aghash rfl rfl rfl (by first | exact hvA_size _ | rfl) (c := hvA zeroH) rfl (hvA_size _) (hvA_one _) ?_; intro w1 hs; clear HS; have HS := Lib.hid hs; clear hs)))
          go_ret
          exact ⟨rfl, HS.out.kp⟩
      · have hd1 : decide (f = old) = false := decide_eq_false hf
        have HV := Lib.hid (show onV m n old root (some (f, s)) = 22 by rw [onV, if_neg (fun h => hm h.1), if_neg (fun h => hm h.1), if_pos (.inl hf)])
        rw [HV.out]
        clear hm hf
        go_enter Tryd.func64, Tryd.ntmps64
        go_wp2_with (first
            | (have _t := tokB0; refine boxS HS.out rfl rfl rfl (c := hvA old) rfl ?_; clear tokB0; intro g7 w1 hs; clear HS; have HS := Lib.hid hs; clear hs)
            | (have _t := tokB1; refine boxS HS.out rfl rfl rfl (c := hvA root) rfl ?_; clear tokB1; intro g8 w1 hs; clear HS; have HS := Lib.hid hs; clear hs)
            | (have _t := tokN0; refine newS HS.out Tryd.zhash rfl rfl (c := hvA zeroH) rfl ?_; clear tokN0; intro g11 w1 hs; clear HS; have HS := Lib.hid hs; clear hs)
            | (have _t := tokN1; refine newS HS.out Tryd.zhash rfl rfl (c := hvA zeroH) rfl ?_; clear tokN1; intro g12 w1 hs; clear HS; have HS := Lib.hid hs; clear hs)
            | (refine isLoad rfl ?_; first | (refine getS0 HS.out Tryd.aghash rfl rfl rfl (by first | exact hvA_size _ | rfl) ?_) | (refine cellS0 HS.out Tryd.scint rfl rfl rfl rfl ?_) | (refine cellS0 HS.out Tryd.schashes rfl rfl rfl rfl ?_) | (refine getS1 HS.out Tryd.aghash rfl rfl rfl (by first | exact hvA_size _ | rfl) ?_) | (refine cellS1 HS.out Tryd.scint rfl rfl rfl rfl ?_) | (refine cellS1 HS.out Tryd.schashes rfl rfl rfl rfl ?_))
            | (refine isStore rfl ?_; first | (refine setS0 HS.out Tryd.aghash rfl rfl rfl (by first | exact hvA_size _ | rfl) rfl (by first | exact hvA_size _ | rfl) (hvA_one _) ?_; intro w1 hs; clear HS; have HS := Lib.hid hs; clear hs) | (refine setS0 HS.out Tryd.aghash rfl rfl rfl (by first | exact hvA_size _ | rfl) (c := hvA zeroH) rfl (hvA_size _) (hvA_one _) ?_; intro w1 hs; clear HS; have HS := Lib.hid hs; clear hs) | (refine setS1 HS.out Tryd.aghash rfl rfl rfl (by first | exact hvA_size _ | rfl) rfl (by first | exact hvA_size _ | rfl) (hvA_one _) ?_; intro w1 hs; clear HS; have HS := Lib.hid hs; clear hs) | (refine setS1 HS.out Tryd.aghash rfl rfl rfl (by first | exact hvA_size _ | rfl) (c := hvA zeroH) rfl (hvA_size _) (hvA_one _) ?_; intro w1 hs; clear HS; have HS := Lib.hid hs; clear hs)))
        refine (HC.out _ HS.out.kp).mono ?_
        rintro e w1 ⟨rfl, k1⟩
        have HS := Lib.hid (HS.out.call k1)
        clear k1
        simp only [bothV, hcsA]
        go_wp2_with (first
            | (have _t := tokN0; refine newS HS.out Tryd.zhash rfl rfl (c := hvA zeroH) rfl ?_; clear tokN0; intro g11 w1 hs; clear HS; have HS := Lib.hid hs; clear hs)
            | (have _t := tokN1; refine newS HS.out Tryd.zhash rfl rfl (c := hvA zeroH) rfl ?_; clear tokN1; intro g12 w1 hs; clear HS; have HS := Lib.hid hs; clear hs)
            | (refine isLoad rfl ?_; first | (refine getS0 HS.out Tryd.aghash rfl rfl rfl (by first | exact hvA_size _ | rfl) ?_) | (refine cellS0 HS.out Tryd.scint rfl rfl rfl rfl ?_) | (refine cellS0 HS.out Tryd.schashes rfl rfl rfl rfl ?_) | (refine getS1 HS.out Tryd.aghash rfl rfl rfl (by first | exact hvA_size _ | rfl) ?_) | (refine cellS1 HS.out Tryd.scint rfl rfl rfl rfl ?_) | (refine cellS1 HS.out Tryd.schashes rfl rfl rfl rfl ?_) | (refine getS2 HS.out Tryd.aghash rfl rfl rfl (by first | exact hvA_size _ | rfl) ?_) | (refine cellS2 HS.out Tryd.scint rfl rfl rfl rfl ?_) | (refine cellS2 HS.out Tryd.schashes rfl rfl rfl rfl ?_) | (refine getS3 HS.out Tryd.aghash rfl rfl rfl (by first | exact hvA_size _ | rfl) ?_) | (refine cellS3 HS.out Tryd.scint rfl rfl rfl rfl ?_) | (refine cellS3 HS.out Tryd.schashes rfl rfl rfl rfl ?_))
            | (refine isStore rfl ?_; first | (refine setS0 HS.out Tryd.aghash rfl rfl rfl (by first | exact hvA_size _ | rfl) rfl (by first | exact hvA_size _ | rfl) (hvA_one _) ?_; intro w1 hs; clear HS; have HS := Lib.hid hs; clear hs) | (refine setS0 HS.out Tryd.aghash rfl rfl rfl (by first | exact hvA_size _ | rfl) (c := hvA zeroH) rfl (hvA_size _) (hvA_one _) ?_; intro w1 hs; clear HS; have HS := Lib.hid hs; clear hs) | (refine setS1 HS.out Tryd.aghash rfl rfl rfl (by first | exact hvA_size _ | rfl) rfl (by first | exact hvA_size _ | rfl) (hvA_one _) ?_; intro w1 hs; clear HS; have HS := Lib.hid hs; clear hs) | (refine setS1 HS.out Tryd.aghash rfl rfl rfl (by first | exact hvA_size _ | rfl) (c := hvA zeroH) rfl (hvA_size _) (hvA_one _) ?_; intro w1 hs; clear HS; have HS := Lib.hid hs; clear hs) | (refine setS2 HS.out Tryd.aghash rfl rfl rfl (by first | exact hvA_size _ | rfl) rfl (by first | exact hvA_size _ | rfl) (hvA_one _) ?_; intro w1 hs; clear HS; have HS := Lib.hid hs; clear hs) | (refine setS2 HS.out Tryd.aghash rfl rfl rfl (by first | exact hvA_size _ | rfl) (c := hvA zeroH) rfl (hvA_size _) (hvA_one _) ?_; intro w1 hs; clear HS; have HS := Lib.hid hs; clear hs) | (refine setS3 HS.out Tryd.aghash rfl rfl rfl (by first | exact hvA_size _ | rfl) rfl (by first | exact hvA_size _ | rfl) (hvA_one _) ?_; intro w1 hs; clear HS; have HS := Lib.hid hs; clear hs) | (refine setS3 HS.out Tryd.aghash rfl rfl rfl (by first | exact hvA_size _ | rfl) (c := hvA zeroH) rfl (hvA_size _) (hvA_one _) ?_; intro w1 hs; clear HS; have HS := Lib.hid hs; clear hs)))
        have HF0 := HS.out.drew
        clear HS
        refine regionK 8 (fun W => St [] w [⟨g12, hvA s, 33⟩, ⟨g11, hvA f, 33⟩, ⟨g8, hvA root, 33⟩, ⟨g7, hvA old, 33⟩] [] W) (by kernel_rfl) HF0 (fun hHeld => ?_)
        have HF := HF0
        clear HF0
        refine takeP (i := 0) (dst := (some 28)) (v := ?_) rfl rfl (by kernel_rfl) (by kernel_rfl) (by kernel_rfl) (by decide) (fun _ _ _ h => h) (fun _ => hHeld) (Or.inl ⟨by rfl, ?_⟩) ?_
        rotate_left
        · intro w' _
          go_simp
          all_goals (with_reducible rfl)
        try simp only [Act.put, List.setIfInBounds_toArray, List.set_cons_zero, List.set_cons_succ]
        refine takeP (i := 1) (dst := (some 29)) (v := ?_) rfl rfl (by kernel_rfl) (by kernel_rfl) (by kernel_rfl) (by decide) (fun _ _ _ h => h) (fun _ => hHeld) (Or.inl ⟨by rfl, ?_⟩) ?_
        rotate_left
        · intro w' _
          go_simp
          all_goals (with_reducible rfl)
        try simp only [Act.put, List.setIfInBounds_toArray, List.set_cons_zero, List.set_cons_succ]
        refine takeP (i := 2) (dst := (some 30)) (v := ?_) rfl rfl (by kernel_rfl) (by kernel_rfl) (by kernel_rfl) (by decide) (fun _ _ _ h => h) (fun _ => hHeld) (Or.inl ⟨by rfl, ?_⟩) ?_
        rotate_left
        · intro w' _
          go_simp
          all_goals (with_reducible rfl)
        try simp only [Act.put, List.setIfInBounds_toArray, List.set_cons_zero, List.set_cons_succ]
        refine takeP (i := 3) (dst := (some 31)) (v := undef) rfl rfl (by kernel_rfl) (by kernel_rfl) (by kernel_rfl) (by decide) (fun _ _ _ h => h) (fun _ => hHeld) (yields_off (by rfl)) ?_
        try simp only [Act.put, List.setIfInBounds_toArray, List.set_cons_zero, List.set_cons_succ]
        refine takeP (i := 4) (dst := (some 32)) (v := undef) rfl rfl (by kernel_rfl) (by kernel_rfl) (by kernel_rfl) (by decide) (fun _ _ _ h => h) (fun _ => hHeld) (yields_off (by rfl)) ?_
        try simp only [Act.put, List.setIfInBounds_toArray, List.set_cons_zero, List.set_cons_succ]
        refine takeP (i := 5) (dst := (some 33)) (v := undef) rfl rfl (by kernel_rfl) (by kernel_rfl) (by kernel_rfl) (by decide) (fun _ _ _ h => h) (fun _ => hHeld) (yields_off (by rfl)) ?_
        try simp only [Act.put, List.setIfInBounds_toArray, List.set_cons_zero, List.set_cons_succ]
        refine takeP (i := 6) (dst := (some 34)) (v := ?_) rfl rfl (by kernel_rfl) (by kernel_rfl) (by kernel_rfl) (by decide) (fun _ _ _ h => h) (fun _ => hHeld) (Or.inl ⟨by rfl, ?_⟩) ?_
        rotate_left
        · intro w' _
          go_simp
          all_goals (with_reducible rfl)
        try simp only [Act.put, List.setIfInBounds_toArray, List.set_cons_zero, List.set_cons_succ]
        refine takeP (i := 7) (dst := (some 27)) (v := ?_) rfl rfl (by kernel_rfl) (by kernel_rfl) (by kernel_rfl) (by decide) (fun _ _ _ h => h) (fun _ => hHeld) (Or.inl ⟨by rfl, ?_⟩) ?_
        rotate_left
        · intro w' _
          go_simp
          all_goals (with_reducible rfl)
        try simp only [Act.put, List.setIfInBounds_toArray, List.set_cons_zero, List.set_cons_succ]
        refine doneK (by kernel_rfl) ?_ _
        have HS := Lib.hid HF
        clear HF hHeld
        go_wp2_with (first
            | (refine isLoad rfl ?_; first | (refine getS0 HS.out Tryd.aghash rfl rfl rfl (by first | exact hvA_size _ | rfl) ?_) | (refine cellS0 HS.out Tryd.scint rfl rfl rfl rfl ?_) | (refine cellS0 HS.out Tryd.schashes rfl rfl rfl rfl ?_) | (refine getS1 HS.out Tryd.aghash rfl rfl rfl (by first | exact hvA_size _ | rfl) ?_) | (refine cellS1 HS.out Tryd.scint rfl rfl rfl rfl ?_) | (refine cellS1 HS.out Tryd.schashes rfl rfl rfl rfl ?_) | (refine getS2 HS.out Tryd.aghash rfl rfl rfl (by first | exact hvA_size _ | rfl) ?_) | (refine cellS2 HS.out Tryd.scint rfl rfl rfl rfl ?_) | (refine cellS2 HS.out Tryd.schashes rfl rfl rfl rfl ?_) | (refine getS3 HS.out Tryd.aghash rfl rfl rfl (by first | exact hvA_size _ | rfl) ?_) | (refine cellS3 HS.out Tryd.scint rfl rfl rfl rfl ?_) | (refine cellS3 HS.out Tryd.schashes rfl rfl rfl rfl ?_))
            | (refine isStore rfl ?_; first | (refine setS0 HS.out Tryd.aghash rfl rfl rfl (by first | exact hvA_size _ | rfl) rfl (by first | exact hvA_size _ | rfl) (hvA_one _) ?_; intro w1 hs; clear HS; have HS := Lib.hid hs; clear hs) | (refine setS0 HS.out Tryd.aghash rfl rfl rfl (by first | exact hvA_size _ | rfl) (c := hvA zeroH) rfl (hvA_size _) (hvA_one _) ?_; intro w1 hs; clear HS; have HS := Lib.hid hs; clear hs) | (refine setS1 HS.out Tryd.aghash rfl rfl rfl (by first | exact hvA_size _ | rfl) rfl (by first | exact hvA_size _ | rfl) (hvA_one _) ?_; intro w1 hs; clear HS; have HS := Lib.hid hs; clear hs) | (refine setS1 HS.out Tryd.aghash rfl rfl rfl (by first | exact hvA_size _ | rfl) (c := hvA zeroH) rfl (hvA_size _) (hvA_one _) ?_; intro w1 hs; clear HS; have HS := Lib.hid hs; clear hs) | (refine setS2 HS.out Tryd.aghash rfl rfl rfl (by first | exact hvA_size _ | rfl) rfl (by first | exact hvA_size _ | rfl) (hvA_one _) ?_; intro w1 hs; clear HS; have HS := Lib.hid hs; clear hs) | (refine setS2 HS.out Tryd.aghash rfl rfl rfl (by first | exact hvA_size _ | rfl) (c := hvA zeroH) rfl (hvA_size _) (hvA_one _) ?_; intro w1 hs; clear HS; have HS := Lib.hid hs; clear hs) | (refine setS3 HS.out Tryd.aghash rfl rfl rfl (by first | exact hvA_size _ | rfl) rfl (by first | exact hvA_size _ | rfl) (hvA_one _) ?_; intro w1 hs; clear HS; have HS := Lib.hid hs; clear hs) | (refine setS3 HS.out Tryd.aghash rfl rfl rfl (by first | exact hvA_size _ | rfl) (c := hvA zeroH) rfl (hvA_size _) (hvA_one _) ?_; intro w1 hs; clear HS; have HS := Lib.hid hs; clear hs)))
        go_ret
        exact ⟨rfl, HS.out.kp⟩
end Go.Proofs.YtalnkhgonfcabaaDoor
