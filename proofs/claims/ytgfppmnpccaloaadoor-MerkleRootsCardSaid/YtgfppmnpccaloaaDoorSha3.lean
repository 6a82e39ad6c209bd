/-
  A DIGEST of bytes, whatever parts they come in.
-/
import Derived.Test.YtgfppmnpccaloaaDoorSha2
import Derived.Test.YtgfppmnpccaloaaDoorStruct
namespace Go.Proofs.YtgfppmnpccaloaaDoor
open Go.RowKit

/-- The state behind so many blocks of b. -/
def stB (s : S8) (b : List UInt8) : Nat → S8
  | 0 => s
  | j + 1 => comp (stB s b j) ((b.drop (64 * j)).take 64)
def stOf (m : List UInt8) : S8 := stB begin8 m (m.length / 64)
def restOf (m : List UInt8) : List UInt8 := m.drop (64 * (m.length / 64))
theorem restOf_length (m : List UInt8) : (restOf m).length = m.length % 64 := by unfold restOf; rw [List.length_drop]; omega
theorem stB_pre (s : S8) (m b : List UInt8) : ∀ j, 64 * j ≤ m.length → stB s (m ++ b) j = stB s m j
  | 0, _ => rfl
  | j + 1, h => by
    rw [stB, stB, stB_pre s m b j (by omega)]
    congr 1
    rw [List.drop_append_of_le_length (by omega), List.take_append_of_le_length (by rw [List.length_drop]; omega)]
theorem stB_add (s : S8) (m b : List UInt8) (q : Nat) (h : m.length = 64 * q) : ∀ j, stB s (m ++ b) (q + j) = stB (stB s m q) b j
  | 0 => stB_pre s m b q (by omega)
  | j + 1 => by
    rw [← Nat.add_assoc, stB, stB, stB_add s m b q h j]
    congr 2
    rw [show 64 * (q + j) = m.length + 64 * j by omega, List.drop_append, List.drop_eq_nil_of_le (by omega), List.nil_append]
    congr 1; omega
/-- Onto whole blocks. -/
theorem st_whole (m b : List UInt8) (h : restOf m = []) : stOf (m ++ b) = stB (stOf m) b (b.length / 64) ∧ restOf (m ++ b) = b.drop (64 * (b.length / 64)) := by
  have hl := restOf_length m
  rw [h] at hl
  have hq : m.length = 64 * (m.length / 64) := by simp at hl; omega
  have he : (m ++ b).length / 64 = m.length / 64 + b.length / 64 := by rw [List.length_append]; omega
  constructor
  · unfold stOf
    rw [he]
    exact stB_add begin8 m b _ hq _
  · unfold restOf
    rw [he, show 64 * (m.length / 64 + b.length / 64) = m.length + 64 * (b.length / 64) by omega, List.drop_append, List.drop_eq_nil_of_le (by omega), List.nil_append]
    congr 1; omega
/-- Not a whole block yet. -/
theorem st_short (m b : List UInt8) (h : (restOf m).length + b.length < 64) : stOf (m ++ b) = stOf m ∧ restOf (m ++ b) = restOf m ++ b := by
  rw [restOf_length] at h
  have he : (m ++ b).length / 64 = m.length / 64 := by rw [List.length_append]; omega
  constructor
  · unfold stOf
    rw [he]
    exact stB_pre begin8 m b _ (by omega)
  · unfold restOf
    rw [he, List.drop_append_of_le_length (by omega)]
/-- Just a whole block. -/
theorem st_full (m b : List UInt8) (h : (restOf m).length + b.length = 64) (h0 : restOf m ≠ []) : stOf (m ++ b) = comp (stOf m) (restOf m ++ b) ∧ restOf (m ++ b) = [] := by
  have hr := restOf_length m
  rw [restOf_length] at h
  have hm0 : 0 < m.length % 64 := by rw [← hr]; exact List.length_pos_iff.2 h0
  have he : (m ++ b).length / 64 = m.length / 64 + 1 := by rw [List.length_append]; omega
  constructor
  · unfold stOf
    rw [he, stB, stB_pre begin8 m b _ (by omega)]
    congr 1
    unfold restOf
    rw [List.drop_append_of_le_length (by omega), List.take_of_length_le]
    rw [List.length_append, List.length_drop]; omega
  · apply List.eq_nil_of_length_eq_zero
    rw [restOf_length, List.length_append]; omega

/-- What the counter, an int, says of so many bytes: it goes round. -/
def cnt (n : Nat) : Int := IntKind.i64.wrap (n : Int)
theorem cnt_add (n k : Nat) : IntKind.i64.wrap (cnt n + (k : Int)) = cnt (n + k) := by
  unfold cnt
  simp only [IntKind.wrap, IntKind.bits, IntKind.signed]
  simp
  split <;> split <;> split <;> omega

/-- A digest of the bytes m, at p; F: the blocks that are its own. -/
def DigAt (w : World) (p : Nat) (m : List UInt8) (F : List Nat) : Prop :=
  ∃ a c, w.heap[p]? = some (.cells (digA (stOf m) (.slice a (restOf m).length c) (cnt m.length)) 52 (0, 0)) ∧ w.ownsRow 0 5 1 (.slice a (restOf m).length c) (restOf m).length (bcs (restOf m)) ∧ F = p :: aF a
theorem digA_8 (s : S8) (v : Value) (n : Int) : (digA s v n)[8]? = some v := rfl
theorem digA_9 (s : S8) (v : Value) (n : Int) : (digA s v n)[9]? = some (.int .i64 n) := rfl
theorem digA_set8 (s : S8) (v u : Value) (n : Int) : (digA s v n).setIfInBounds 8 u = digA s u n := rfl
theorem digA_set9 (s : S8) (v : Value) (n k : Int) : (digA s v n).setIfInBounds 9 (.int .i64 k) = digA s v k := rfl
theorem row_zero {w : World} {g n c e size : Nat} {xs : List Value} (h : w.ownsRow 0 e size (.slice (some ⟨g, 0, none⟩) n c) n xs) : w.ownsRow 0 e size (.slice (some ⟨g, 0, none⟩) 0 c) 0 [] := by
  rcases h.2 with ⟨hv, _⟩ | ⟨g', cap, cur, hv, hb, hg, h1, h2, h3, h4⟩
  · simp at hv
  · simp at hv
    obtain ⟨rfl, rfl⟩ := hv
    exact ⟨by simp, .inr ⟨g, c, cur, rfl, hb, hg, Nat.zero_le _, h2, h3, by simp⟩⟩
theorem DigAt.kept {w w' : World} {p : Nat} {m : List UInt8} {F F0 : List Nat} (h : DigAt w p m F) (k : Kp F0 w w') (hF : ∀ x ∈ F, x ∉ F0) : DigAt w' p m F := by
  obtain ⟨a, c, h1, h2, rfl⟩ := h
  exact ⟨a, c, (k.block _ (lt_of_block h1) (hF p (by simp))).trans h1, row_kept h2 k (fun x hx => hF x (by simp [hx])), rfl⟩
theorem DigAt.flt {w : World} {p : Nat} {m : List UInt8} {F : List Nat} (h : DigAt w p m F) : ∀ x ∈ F, x < w.heap.size := by
  obtain ⟨a, c, h1, h2, rfl⟩ := h
  intro x hx
  simp only [List.mem_cons] at hx
  rcases hx with rfl | hx
  · exact lt_of_block h1
  · exact (own_aF h2 x hx).2

theorem Tryd.tdig : StT Tryd.prog 52 10 := ⟨⟨_, Tryd.underlying52⟩, by kernel_rfl⟩

theorem dig_c8 {w : World} {p : Nat} {s : S8} {v : Value} {n : Int} {t : TypeId} {fr : Nat × Nat} (h : w.heap[p]? = some (.cells (digA s v n) t fr)) : w.cell? ⟨p, 8, none⟩ = some v := by rw [cell_of_row w p 8 _ _ _ h]; rfl
theorem dig_c9 {w : World} {p : Nat} {s : S8} {v : Value} {n : Int} {t : TypeId} {fr : Nat × Nat} (h : w.heap[p]? = some (.cells (digA s v n) t fr)) : w.cell? ⟨p, 9, none⟩ = some (.int .i64 n) := by rw [cell_of_row w p 9 _ _ _ h]; rfl
theorem own_not {p : Nat} {a : Option Addr} {n c : Nat} (h : p ∉ aF a) : some p ≠ Value.ownBlock (.slice a n c) := by
  rw [own_block]
  cases a with
  | none => simp
  | some ad => intro hh; simp at hh; exact h (by simp [aF, hh])

/-- sha.New -/
theorem new_any (w : World) (hL : Laid w) :
    Calls Tryd.prog 14 #[] w fun e w' => e = .returned (.pointer (some ⟨w.heap.size, 0, none⟩)) ∧ DigAt w' w.heap.size [] [w.heap.size] ∧ Kp [] w w' ∧ w'.heap.size = w.heap.size + 1 := by
  have HL := Lib.hid hL
  clear hL
  have hl8 : (wvs beginL).length = 8 := rfl
  go_enter Tryd.func14, Tryd.ntmps14
  go_wp2_with (refine wpList_get_mid Tryd.t8w rfl rfl HL.out.b rfl rfl ?_)
  go_ret
  exact ⟨rfl, ⟨none, 0, heap_alloc_new w _, World.ownsRow_nil _ _ _ _, rfl⟩, (Kp.refl [] w).alloc _, by simp⟩
end Go.Proofs.YtgfppmnpccaloaaDoor
