import Derived.Test.YtngdbblgnimogaaWire9
import Derived.Laws.OwnMore
namespace Go.Proofs.Ytngdbblgnimogaa
open Go.RowKit

/-! ### make, of a length that is a variable -/
theorem wpList_make {P : Program} {ops : Array Oper} {rest : List Oper} {o : Oper} {a : Act} {w : World} {Q : Exit → Act → World → Prop} {t e : TypeId} {i : TypeInfo} {z : Value} {size bytes : Nat} (T : SlT P t e i z size bytes) (hgd : o.guard = none) {x y : Operand}
    (ho : o.op = .makeSlice t x y) {kl kc : IntKind} {n : Nat} (hx : a.eval x = .int kl n) (hy : a.eval y = .int kc n) (hc : n * size ≤ 16777216) (hn : bytes * n ≤ 281474976710656)
    (h : ∀ w', w'.heap[w.heap.size]? = some (.cells (madeCells z.cells (n * size)) e (0, 0)) → w'.heap.size = w.heap.size + 1 → Kp [] w w' → wpList P ops Q rest (a.put o.dst (.slice (some ⟨w.heap.size, 0, none⟩) n n)) w') : wpList P ops Q (o :: rest) a w := by
  have hmx : n ≤ 16777216 := by
    have := T.p
    have : n * 1 ≤ n * size := Nat.mul_le_mul_left _ this
    omega
  have hb' : (i.bytes : Int) * (n : Int) ≤ 281474976710656 := by
    have h : ((i.bytes * n : Nat) : Int) ≤ 281474976710656 := by rw [T.b]; omega
    rwa [Int.natCast_mul] at h
  have hr := run_makeSlice (P := P) w t e i z T.u T.hi T.hz kl kc n n (by omega) (Int.le_refl _) (by rw [Int.toNat_natCast, T.s]; exact hc) hb' (by omega)
  rw [Int.toNat_natCast, T.s] at hr
  have hh := h _ (heap_alloc_new w _) (by simp) ((Kp.refl [] w).alloc _)
  refine wpList_plain hgd fun _ hK => ?_
  unfold Oper.wp execOp
  simp only [ho, hx, hy, Sem.run_bind, hr, Result.andThen_ok, Sem.run_pure]
  exact hK _ _ hh

theorem madeCells_u8 (n : Nat) : madeCells (Value.int .u8 0).cells n = (bcs (List.replicate n 0)).toArray := by
  have h0 : ∀ j : Nat, (Value.int .u8 0).cells[j % (Value.int .u8 0).cells.size]! = bcell 0 := fun j => by
    show (#[Value.int .u8 0])[j % 1]! = bcell 0
    rw [Nat.mod_one]; rfl
  unfold madeCells
  rw [show (fun j : Nat => (Value.int .u8 0).cells[j % (Value.int .u8 0).cells.size]!) = fun _ => bcell 0 from funext h0]
  apply Array.ext_getElem?
  intro j
  simp only [bcs, List.map_replicate, Array.getElem?_map, List.getElem?_toArray, List.getElem?_replicate]
  by_cases h : j < n <;> simp [h]

/-- The last m bytes of a number written, the others still nought. -/
def bePart (s : Nat) (n : Int) (m : Nat) : List UInt8 := List.replicate m 0 ++ (be s n).drop m
theorem bePart_zero (s : Nat) (n : Int) : bePart s n 0 = be s n := by simp [bePart]
theorem bePart_all (s : Nat) (n : Int) : bePart s n s = List.replicate s 0 := by simp [bePart, List.drop_eq_nil_of_le, be_length]
theorem bePart_length (s : Nat) (n : Int) (m : Nat) (h : m ≤ s) : (bePart s n m).length = s := by simp [bePart, be_length]; omega
theorem be_at (s : Nat) (n : Int) (m : Nat) (h : m < s) : (be s n)[m]? = some (byteOf (n / 2 ^ (8 * (s - 1 - m)))) := by
  have e : (8 * ((s : Int) - 1 - (m : Int))).toNat = 8 * (s - 1 - m) := by omega
  simp [be, beTo, h, e]
theorem bePart_set (s : Nat) (n : Int) (m : Nat) (h : m < s) : (bePart s n (m + 1)).set m (byteOf (n / 2 ^ (8 * (s - 1 - m)))) = bePart s n m := by
  apply List.ext_getElem?
  intro j
  have hb := be_at s n m h
  by_cases hj : j = m
  · subst hj
    rw [List.getElem?_set_self (by rw [bePart_length _ _ _ (by omega)]; omega)]
    unfold bePart
    rw [List.getElem?_append_right (by simp)]
    simp [hb]
  · rw [List.getElem?_set_ne (fun e => hj e.symm)]
    unfold bePart
    by_cases h1 : j < m
    · rw [List.getElem?_append_left (by rw [List.length_replicate]; omega), List.getElem?_append_left (by rw [List.length_replicate]; omega), List.getElem?_replicate, List.getElem?_replicate, if_pos (by omega), if_pos h1]
    · rw [List.getElem?_append_right (by rw [List.length_replicate]; omega), List.getElem?_append_right (by rw [List.length_replicate]; omega)]
      simp only [List.length_replicate, List.getElem?_drop]
      congr 1; omega
theorem bcs_set (l : List UInt8) (m : Nat) (b : UInt8) : (bcs l).toArray.setIfInBounds m (bcell b) = (bcs (l.set m b)).toArray := by
  simp [bcs, List.map_set]

set_option maxHeartbeats 400000 in
theorem number2_any (n : Int) (s : Nat) (w : World) (hs : s ≤ 8) :
    Calls Try.prog 40 #[.int .i64 n, .int .i64 s] w fun e w' => ∃ a c, e = .returned (.slice a s c) ∧ w'.ownsRow 0 5 1 (.slice a s c) s (bcs (be s n)) ∧ (∀ x ∈ aF a, w.heap.size ≤ x) ∧ Kp [] w w' := by
  obtain ⟨i0, T⟩ := Try.tbytes
  have HT := Lib.hid T
  clear T
  go_enter Try.func40, Try.ntmps40
  go_wp2_with (refine wpList_make HT.out rfl rfl (n := s) rfl rfl (by omega) (by omega) ?_; intro w1 h1 s1 k1)
  rw [Nat.mul_one, madeCells_u8, ← bePart_all s n] at h1
  have H1 := Lib.hid h1
  have K1 := Lib.hid k1
  clear h1 k1
  go_loopw [0, 6] (fun n' i wr => ∃ m : Nat, m ≤ s ∧ i = .int .i64 ((m : Int) - 1) ∧ n' = .int .i64 (n / 2 ^ (8 * (s - m))) ∧ wr.heap[w.heap.size]? = some (.cells (bcs (bePart s n m)).toArray 5 (0, 0)) ∧ Kp [] w wr) (fun _ i _ => (intOf i + 1).toNat)
  case atStart => exact ⟨s, by omega, by go_num, by simp, H1.out, K1.out⟩
  case round =>
    obtain ⟨m, hm, rfl, rfl, hb, hk⟩ := hrel
    have HB := Lib.hid hb
    have HK := Lib.hid hk
    cases m with
    | zero =>
      clear hb hk
      rw [show (((0 : Nat) : Int) - 1) = -1 by omega]
      go_wp2
      go_ret
      refine ⟨_, _, rfl, ⟨by rw [bcs_length, be_length, Nat.mul_one], .inr ⟨_, s, _, rfl, Nat.zero_le _, HB.out, Nat.le_refl _, ?_, ?_, ?_⟩⟩, fun x hx => ?_, HK.out⟩
      · unfold maxLen; omega
      · rw [bePart_zero, List.size_toArray, bcs_length, be_length, Nat.mul_one]
      · rw [bePart_zero, List.take_of_length_le]; simp [bcs_length, be_length]
      · simp [aF] at hx; omega
    | succ m =>
      have hc : wr.cell? ⟨w.heap.size, m, none⟩ = some (bcell ((bePart s n (m + 1))[m]'(by rw [bePart_length _ _ _ hm]; omega))) := by
        rw [cell_of_row wr _ m _ _ _ hb]
        simp only [bcs, List.getElem?_toArray, List.getElem?_map]
        rw [List.getElem?_eq_getElem (by rw [bePart_length _ _ _ hm]; omega)]; rfl
      have hf : wr.frozen? ⟨w.heap.size, m, none⟩ = false := frozen_of_row wr _ m _ _ hb
      obtain ⟨u, hu⟩ : ∃ u, u = bcell ((bePart s n (m + 1))[m]'(by rw [bePart_length _ _ _ hm]; omega)) := ⟨_, rfl⟩
      rw [← hu] at hc
      clear hu hb hk
      obtain ⟨q, hq⟩ : ∃ q, q = n / 2 ^ (8 * (s - (m + 1))) := ⟨_, rfl⟩
      have hq2 : n / 2 ^ (8 * (s - m)) = q / 256 := by
        rw [hq, show 8 * (s - m) = 8 * (s - (m + 1)) + 8 by omega, Int.pow_add, ← Int.ediv_ediv_of_nonneg (Int.le_of_lt (Int.pow_pos (by decide)))]; rfl
      have HQ := Lib.hid hq
      have HQ2 := Lib.hid hq2
      rw [← hq]
      clear hq hq2
      rw [show (((m + 1 : Nat) : Int) - 1) = (m : Int) by omega]
      go_wp2
      go_roundw
      case rel =>
        refine ⟨m, by omega, by go_num, ?_, ?_, ?_⟩
        · rw [HQ2.out]
        · have := heap_setCell_same wr w.heap.size m _ _ (bcell (byteOf q)) HB.out
          rw [bcs_set, HQ.out, show s - (m + 1) = s - 1 - m by omega, bePart_set s n m (by omega)] at this
          rw [← this, bcell_byteOf, HQ.out, show s - (m + 1) = s - 1 - m by omega]
          simp only [IntKind.wrap, IntKind.bits, IntKind.signed]
          rfl
        · exact HK.out.setCell (.inr (Nat.le_refl _)) _
      case measure => simp [intOf]
end Go.Proofs.Ytngdbblgnimogaa
