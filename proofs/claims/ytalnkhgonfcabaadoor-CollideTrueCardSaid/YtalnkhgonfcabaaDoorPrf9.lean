/-
  The reference's Sides and Steps, walked.
-/
import Derived.Test.YtalnkhgonfcabaaDoorPrf5
import Derived.Test.YtalnkhgonfcabaaDoorPrf8
import Derived.Test.YtalnkhgonfcabaaDoorRefe
namespace Go.Proofs.YtalnkhgonfcabaaDoor
open Go.RowKit

def bvs (l : List Bool) : List Value := l.map Value.bool
theorem bvs_length (l : List Bool) : (bvs l).length = l.length := by simp [bvs]
theorem bvs_snoc (l : List Bool) (b : Bool) : bvs (l ++ [b]) = bvs l ++ [Value.bool b] := by simp [bvs]
theorem bvs_at (l : List Bool) (k : Nat) (h : k < l.length) : (bvs l)[k]? = some (.bool l[k]) := by simp [bvs, h]
theorem Tryd.tbools : ∃ i, SlT Tryd.prog 57 4 i (.bool false) 1 1 := SlT.mk' Tryd.underlying57 (by kernel_rfl) rfl (by decide)
/-- A new list of bools. -/
def NewBs (w : World) (v : Value) (w' : World) (l : List Bool) : Prop :=
  ∃ a c, v = .slice a l.length c ∧ w'.ownsRow 0 4 1 (.slice a l.length c) l.length (bvs l) ∧ (∀ x ∈ aF a, w.heap.size ≤ x) ∧ Kp [] w w'

theorem sideF_length (f i n : Nat) (h : n ≤ f) (hi : i < n) (hb : n ≤ 1152921504606846976) : (sideF f i n).length ≤ 120 := by
  rw [sideF_is f i n h hi (by omega)]
  exact sideL_le i (n - 1) (by omega) (by omega)
theorem stepF_length (f m n : Nat) (h : n ≤ f) (h1 : 1 ≤ m) (hm : m ≤ n) (hb : n ≤ 1152921504606846976) : (stepF f m n).length ≤ 120 := by
  by_cases he : m = n
  · obtain ⟨g, rfl⟩ : ∃ g, f = g + 1 := ⟨f - 1, by omega⟩
    rw [stepF, if_pos (by omega)]; simp
  · rw [(stepF_is f m n h h1 (by omega) (by omega)).1]
    unfold gL
    have := st_le (m - 1) (n - 1) (by omega)
    exact sideL_le _ _ this.1 (by omega)
end Go.Proofs.YtalnkhgonfcabaaDoor
