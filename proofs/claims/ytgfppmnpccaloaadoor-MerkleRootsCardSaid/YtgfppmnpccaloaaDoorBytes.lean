/-
  BYTES of numbers; bytes.Clone.
-/
import Derived.Test.YtgfppmnpccaloaaDoorStruct
namespace Go.Proofs.YtgfppmnpccaloaaDoor
open Go.RowKit

def byteOf (n : Int) : UInt8 := UInt8.ofNat (n % 256).toNat
theorem bcell_byteOf (n : Int) : bcell (byteOf n) = .int .u8 (IntKind.u8.wrap n) := by
  have h : IntKind.u8.wrap n = n % 256 := by simp [IntKind.wrap, IntKind.bits, IntKind.signed]
  have h1 := Int.emod_nonneg n (show (256 : Int) ≠ 0 by decide)
  have h2 := Int.emod_lt_of_pos n (show (0 : Int) < 256 by decide)
  rw [h]; unfold bcell byteOf
  rw [show (UInt8.ofNat (n % 256).toNat).toNat = (n % 256).toNat from by simp; omega]
  congr 1
  omega
/-- A number's bytes, the highest first; so many of them. -/
def beTo (s : Nat) (n : Int) (k : Nat) : List UInt8 := (List.range k).map fun (i : Nat) => byteOf (n / 2 ^ (8 * ((s : Int) - 1 - i)).toNat)
def be (s : Nat) (n : Int) : List UInt8 := beTo s n s
theorem beTo_succ (s : Nat) (n : Int) (k : Nat) : beTo s n (k + 1) = beTo s n k ++ [byteOf (n / 2 ^ (8 * ((s : Int) - 1 - (k : Int))).toNat)] := by unfold beTo; rw [List.range_succ, List.map_append]; rfl
theorem beTo_length (s : Nat) (n : Int) (k : Nat) : (beTo s n k).length = k := by simp [beTo]

theorem bcs_set (l : List UInt8) (m : Nat) (b : UInt8) : (bcs l).toArray.setIfInBounds m (bcell b) = (bcs (l.set m b)).toArray := by
  simp [bcs, List.map_set]
/-- bytes.Clone -/
theorem clone_any (a : Option Addr) (c : Nat) (l : List UInt8) (w : World) (h : Rd w a l.length c 1 (bcs l)) (hl : l.length ≤ 140737488351232) :
    Calls Tryd.prog 27 #[.slice a l.length c] w fun e w' => ∃ a' c', e = .returned (.slice a' l.length c') ∧ w'.ownsRow 0 5 1 (.slice a' l.length c') l.length (bcs l) ∧ (∀ x ∈ aF a', w.heap.size ≤ x) ∧ Kp [] w w' := by
  obtain ⟨i0, T⟩ := Tryd.tbytes
  cases a with
  | none =>
    have hc := h.nil rfl
    have hll : l = [] := List.eq_nil_of_length_eq_zero (by have := h.le; omega)
    subst hc hll
    clear h
    have he := fun w : World => Lib.run_eql_slice_nil (P := Tryd.prog) w 40 5 none 0 0 0 0 Tryd.underlying40
    go_enter Tryd.func27, Tryd.ntmps27
    go_wp2
    go_ret
    exact ⟨none, 0, rfl, World.ownsRow_nil _ _ _ _, by simp [aF], Kp.refl _ _⟩
  | some ad =>
    have H := Lib.hid h
    clear h
    have he := fun w : World => Lib.run_eql_slice_nil (P := Tryd.prog) w 40 5 (some ad) l.length c 0 0 Tryd.underlying40
    go_enter Tryd.func27, Tryd.ntmps27
    go_wp2_with (at_builtin; refine wpList_append_rd T rfl rfl rfl (World.ownsRow_made w #[] 0 (Nat.zero_le _) (by simp [maxLen]) (by simp)) rfl (H.out.below ((Kp.refl _ _).alloc _)) (bcs_one _) (by omega) (by simp [maxLen]; omega) ?_)
    intro a' c' w' hown hgrow hF
    go_wp2
    go_ret
    refine ⟨a', c', rfl, hown, ?_, ((Kp.refl _ _).alloc _).grown hgrow ?_⟩
    · intro x hx
      rcases hF x hx with h1 | h1
      · simp [aF] at h1; omega
      · omega
    · intro k hk; simp [Value.ownBlock] at hk; omega

end Go.Proofs.YtgfppmnpccaloaaDoor
