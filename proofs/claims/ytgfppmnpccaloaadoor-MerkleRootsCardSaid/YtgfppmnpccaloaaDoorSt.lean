/-
  WHAT A CALL HAS MADE: its own blocks, whole, and its own rows, in one fact, with one law a step.
-/
import Derived.Test.YtgfppmnpccaloaaDoorInv
namespace Go.Proofs.YtgfppmnpccaloaaDoor
open Go.RowKit

/-- A block, whole. -/
structure Bk where
  g : Nat
  c : Array Value
  t : TypeId
/-- An own row: n elements of so many cells each. -/
structure Rw where
  e : TypeId
  size : Nat
  a : Option Addr
  n : Nat
  c : Nat
  xs : List Value
def ids (L : List Bk) (R : List Rw) : List Nat := L.map Bk.g ++ R.flatMap fun r => aF r.a
structure St (F : List Nat) (w0 : World) (L : List Bk) (R : List Rw) (w : World) : Prop where
  kp : Kp F w0 w
  blk : ∀ b ∈ L, w.heap[b.g]? = some (.cells b.c b.t (0, 0))
  row : ∀ r ∈ R, w.ownsRow 0 r.e r.size (.slice r.a r.n r.c) r.n r.xs
  new : ∀ x ∈ ids L R, w0.heap.size ≤ x ∨ x ∈ F
  nd : (ids L R).Nodup

theorem ids_cons (b : Bk) (L : List Bk) (R : List Rw) : ids (b :: L) R = b.g :: ids L R := rfl
theorem ids_row (r : Rw) (L : List Bk) (R : List Rw) : ids L (r :: R) = L.map Bk.g ++ (aF r.a ++ R.flatMap fun r => aF r.a) := by simp [ids]
theorem mem_blk {b : Bk} {L : List Bk} {R : List Rw} (h : b ∈ L) : b.g ∈ ids L R := by simp only [ids, List.mem_append, List.mem_map]; exact .inl ⟨b, h, rfl⟩
theorem mem_row {r : Rw} {L : List Bk} {R : List Rw} (h : r ∈ R) {x : Nat} (hx : x ∈ aF r.a) : x ∈ ids L R := by simp only [ids, List.mem_append, List.mem_flatMap]; exact .inr ⟨r, h, hx⟩

namespace St
variable {F : List Nat} {w0 : World} {L : List Bk} {R : List Rw} {w : World}

theorem start (F : List Nat) (w0 : World) : St F w0 [] [] w0 := ⟨Kp.refl _ _, by simp, by simp, by simp [ids], by simp [ids]⟩
theorem drew (h : St F w0 L R w) : St F w0 L R w.drew := ⟨h.kp.drew, h.blk, h.row, h.new, h.nd⟩
theorem drewN (h : St F w0 L R w) (n : Nat) : St F w0 L R (w.drewN n) := ⟨⟨h.kp.os, h.kp.tape, h.kp.output, h.kp.size, h.kp.block⟩, h.blk, h.row, h.new, h.nd⟩
theorem lt (h : St F w0 L R w) : ∀ x ∈ ids L R, x < w.heap.size := by
  intro x hx
  simp only [ids, List.mem_append, List.mem_map, List.mem_flatMap] at hx
  rcases hx with ⟨b, hb, rfl⟩ | ⟨r, hr, hx⟩
  · exact (Array.getElem?_eq_some_iff.1 (h.blk b hb)).1
  · exact (own_aF (h.row r hr) x hx).2
theorem kept {G : List Nat} {w' : World} (h : St F w0 L R w) (k : Kp G w w') (hG : ∀ x ∈ G, x ∉ ids L R) (hF : ∀ x ∈ G, x < w0.heap.size → x ∈ F) : St F w0 L R w' := by
  refine ⟨h.kp.trans k hF, fun b hb => ?_, fun r hr => ?_, h.new, h.nd⟩
  · rw [k.block b.g (h.lt _ (mem_blk hb)) (fun hh => hG _ hh (mem_blk hb))]; exact h.blk b hb
  · exact own_kept (h.row r hr) k (by rw [rowF_slice]; exact fun x hx hh => hG x hh (mem_row hr hx))
theorem call {w' : World} (h : St F w0 L R w) (k : Kp [] w w') : St F w0 L R w' := h.kept k (by simp) (by simp)
theorem alloc (h : St F w0 L R w) (c : Array Value) (t : TypeId) : St F w0 (⟨w.heap.size, c, t⟩ :: L) R (w.alloc (.cells c t)) := by
  have h1 := h.call ((Kp.refl [] w).alloc (.cells c t))
  refine ⟨h1.kp, fun b hb => ?_, h1.row, fun x hx => ?_, ?_⟩
  · rcases List.mem_cons.1 hb with rfl | hb
    · exact heap_alloc_new w _
    · exact h1.blk b hb
  · rw [ids_cons] at hx
    rcases List.mem_cons.1 hx with rfl | hx
    · exact .inl h.kp.size
    · exact h.new x hx
  · rw [ids_cons, List.nodup_cons]
    exact ⟨fun hh => by have := h.lt _ hh; simp at this, h.nd⟩
/-- The block b holds other cells now. -/
theorem set {L1 L2 : List Bk} {b : Bk} {w' : World} (h : St F w0 (L1 ++ b :: L2) R w) {c : Array Value} (h' : w'.heap[b.g]? = some (.cells c b.t (0, 0))) (k : Kp [b.g] w w') : St F w0 (L1 ++ ⟨b.g, c, b.t⟩ :: L2) R w' := by
  have hi : ids (L1 ++ ⟨b.g, c, b.t⟩ :: L2) R = ids (L1 ++ b :: L2) R := by simp [ids]
  have hn : ∀ x ∈ L1 ++ L2, x.g ≠ b.g ∧ x ∈ L1 ++ b :: L2 := by
    intro x hx
    have hnd := (List.nodup_append.1 h.nd).1
    simp only [List.map_append, List.map_cons] at hnd
    have h2 := List.nodup_append.1 hnd
    have h3 := List.nodup_cons.1 h2.2.1
    refine ⟨fun hh => ?_, ?_⟩
    · rcases List.mem_append.1 hx with hx | hx
      · exact h2.2.2 x.g (List.mem_map_of_mem hx) b.g (by simp) hh
      · exact h3.1 (by rw [← hh]; exact List.mem_map_of_mem hx)
    · simp only [List.mem_append, List.mem_cons] at hx ⊢
      rcases hx with hx | hx
      · exact .inl hx
      · exact .inr (.inr hx)
  refine ⟨h.kp.trans k (fun x hx hlt => ?_), fun x hx => ?_, fun r hr => ?_, by rw [hi]; exact h.new, by rw [hi]; exact h.nd⟩
  · simp at hx; subst hx
    rcases h.new _ (mem_blk (b := b) (by simp)) with h1 | h1
    · omega
    · exact h1
  · simp only [List.mem_append, List.mem_cons] at hx
    rcases hx with hx | rfl | hx
    · obtain ⟨h1, h2⟩ := hn x (by simp [hx])
      rw [k.block x.g (h.lt _ (mem_blk h2)) (by simpa using h1)]; exact h.blk x h2
    · exact h'
    · obtain ⟨h1, h2⟩ := hn x (by simp [hx])
      rw [k.block x.g (h.lt _ (mem_blk h2)) (by simpa using h1)]; exact h.blk x h2
  · refine own_kept (h.row r hr) k (by
      rw [rowF_slice]
      intro x hx hh
      simp at hh; subst hh
      have := (List.nodup_append.1 h.nd).2.2 b.g (by simp) b.g (by simp only [List.mem_flatMap]; exact ⟨r, hr, hx⟩)
      exact this rfl)
theorem set0 {L2 : List Bk} {b : Bk} {w' : World} (h : St F w0 (b :: L2) R w) {c : Array Value} (h' : w'.heap[b.g]? = some (.cells c b.t (0, 0))) (k : Kp [b.g] w w') : St F w0 (⟨b.g, c, b.t⟩ :: L2) R w' := set (L1 := []) h h' k
/-- An own row more. -/
theorem addRow {w' : World} (h : St F w0 L R w) (k : Kp [] w w') {e : TypeId} {size : Nat} {a : Option Addr} {n c : Nat} {xs : List Value} (ho : w'.ownsRow 0 e size (.slice a n c) n xs) (hf : ∀ x ∈ aF a, w.heap.size ≤ x) : St F w0 L (⟨e, size, a, n, c, xs⟩ :: R) w' := by
  have h1 := h.call k
  have hsub : ∀ x, x ∈ ids L (⟨e, size, a, n, c, xs⟩ :: R) → x ∈ aF a ∨ x ∈ ids L R := fun x hx => by
    rw [ids_row] at hx
    simp only [List.mem_append] at hx
    simp only [ids, List.mem_append]
    rcases hx with hx | hx | hx
    · exact .inr (.inl hx)
    · exact .inl hx
    · exact .inr (.inr hx)
  refine ⟨h1.kp, h1.blk, fun r hr => ?_, fun x hx => ?_, ?_⟩
  · rcases List.mem_cons.1 hr with rfl | hr
    · exact ho
    · exact h1.row r hr
  · rcases hsub x hx with hx | hx
    · exact .inl (Nat.le_trans h.kp.size (hf x hx))
    · exact h.new x hx
  · have hnd := List.nodup_append.1 h.nd
    have ha : (aF a).Nodup := by cases a <;> simp [aF]
    have hold : ∀ x ∈ ids L R, x ∉ aF a := fun x hx hh => by have := h.lt x hx; have := hf x hh; omega
    rw [ids_row, List.nodup_append]
    refine ⟨hnd.1, ?_, fun x hx y hy => ?_⟩
    · rw [List.nodup_append]
      refine ⟨ha, hnd.2.1, fun x hx y hy hh => ?_⟩
      subst hh
      exact hold x (by simp only [ids, List.mem_append]; exact .inr hy) hx
    · rcases List.mem_append.1 hy with hy | hy
      · intro hh; subst hh; exact hold x (by simp only [ids, List.mem_append]; exact .inl hx) hy
      · exact hnd.2.2 x hx y hy
theorem nilRow (h : St F w0 L R w) (e : TypeId) (size : Nat) : St F w0 L (⟨e, size, none, 0, 0, []⟩ :: R) w := h.addRow (Kp.refl _ _) (World.ownsRow_nil _ _ _ _) (by simp [aF])
/-- The row r has grown. -/
theorem grow {R1 R2 : List Rw} {r : Rw} {w' : World} (h : St F w0 L (R1 ++ r :: R2) w) {a' : Option Addr} {n' c' : Nat} {xs' : List Value} (ho : w'.ownsRow 0 r.e r.size (.slice a' n' c') n' xs')
    (hg : w.grownBy w' (Value.ownBlock (.slice r.a r.n r.c))) (hf : ∀ x ∈ aF a', x ∈ aF r.a ∨ x = w.heap.size) : St F w0 L (R1 ++ ⟨r.e, r.size, a', n', c', xs'⟩ :: R2) w' := by
  have k : Kp (aF r.a) w w' := (Kp.refl (aF r.a) w).pushed hg (fun x hx => .inl hx)
  have ha : ∀ x ∈ aF r.a, x ∈ ids L (R1 ++ r :: R2) := fun x hx => mem_row (r := r) (by simp) hx
  have hnd := List.nodup_append.1 h.nd
  have hfl : (R1 ++ r :: R2).flatMap (fun r => aF r.a) = R1.flatMap (fun r => aF r.a) ++ (aF r.a ++ R2.flatMap (fun r => aF r.a)) := by simp
  rw [hfl] at hnd
  have hp1 := List.nodup_append.1 hnd.2.1
  have hp2 := List.nodup_append.1 hp1.2.1
  have ha' : (aF a').Nodup := by cases a' <;> simp [aF]
  have hlt := h.lt
  have notin : ∀ x ∈ aF r.a, x ∉ L.map Bk.g ∧ x ∉ R1.flatMap (fun r => aF r.a) ∧ x ∉ R2.flatMap (fun r => aF r.a) := fun x hx =>
    ⟨fun hh => hnd.2.2 x hh x (by simp only [List.mem_append]; exact .inr (.inl hx)) rfl, fun hh => hp1.2.2 x hh x (by simp only [List.mem_append]; exact .inl hx) rfl, fun hh => hp2.2.2 x hx x hh rfl⟩
  have fresh : ∀ x ∈ aF a', x ∉ L.map Bk.g ∧ x ∉ R1.flatMap (fun r => aF r.a) ∧ x ∉ R2.flatMap (fun r => aF r.a) := fun x hx => by
    rcases hf x hx with h1 | h1
    · exact notin x h1
    · subst h1
      refine ⟨fun hh => ?_, fun hh => ?_, fun hh => ?_⟩
      · have := hlt w.heap.size (by simp only [ids, List.mem_append]; exact .inl hh); omega
      · have := hlt w.heap.size (by simp only [ids, List.mem_append, hfl]; exact .inr (.inl hh)); omega
      · have := hlt w.heap.size (by simp only [ids, List.mem_append, hfl]; exact .inr (.inr (.inr hh))); omega
  have hrow : ∀ q, q ∈ R1 ++ R2 → q ∈ R1 ++ r :: R2 ∧ ∀ x ∈ aF q.a, x ∉ aF r.a := fun q hq => by
    rcases List.mem_append.1 hq with hq | hq
    · refine ⟨by simp [hq], fun x hx hh => (notin x hh).2.1 (List.mem_flatMap.2 ⟨q, hq, hx⟩)⟩
    · refine ⟨by simp [hq], fun x hx hh => (notin x hh).2.2 (List.mem_flatMap.2 ⟨q, hq, hx⟩)⟩
  have hkeep : ∀ q, q ∈ R1 ++ R2 → w'.ownsRow 0 q.e q.size (.slice q.a q.n q.c) q.n q.xs := fun q hq => by
    obtain ⟨h1, h2⟩ := hrow q hq
    exact own_kept (h.row q h1) k (by rw [rowF_slice]; exact h2)
  refine ⟨h.kp.trans k (fun x hx hl => ?_), fun b hb => ?_, fun q hq => ?_, fun x hx => ?_, ?_⟩
  · rcases h.new x (ha x hx) with h1 | h1
    · omega
    · exact h1
  · rw [k.block b.g (hlt _ (mem_blk hb)) (fun hh => (notin _ hh).1 (List.mem_map_of_mem hb))]; exact h.blk b hb
  · rcases List.mem_append.1 hq with hq | hq
    · exact hkeep q (by simp [hq])
    · rcases List.mem_cons.1 hq with rfl | hq
      · exact ho
      · exact hkeep q (by simp [hq])
  · simp only [ids, List.mem_append, List.flatMap_append, List.flatMap_cons] at hx
    rcases hx with hx | hx | hx | hx
    · exact h.new x (by simp only [ids, List.mem_append]; exact .inl hx)
    · exact h.new x (by simp only [ids, List.mem_append, hfl]; exact .inr (.inl hx))
    · rcases hf x hx with h1 | h1
      · exact h.new x (ha x h1)
      · exact .inl (by rw [h1]; exact h.kp.size)
    · exact h.new x (by simp only [ids, List.mem_append, hfl]; exact .inr (.inr (.inr hx)))
  · have e : ids L (R1 ++ ⟨r.e, r.size, a', n', c', xs'⟩ :: R2) = L.map Bk.g ++ (R1.flatMap (fun r => aF r.a) ++ (aF a' ++ R2.flatMap (fun r => aF r.a))) := by simp [ids]
    rw [e, List.nodup_append]
    refine ⟨hnd.1, ?_, fun x hx y hy => ?_⟩
    · rw [List.nodup_append]
      refine ⟨hp1.1, ?_, fun x hx y hy => ?_⟩
      · rw [List.nodup_append]
        refine ⟨ha', hp2.2.1, fun x hx y hy hh => ?_⟩
        subst hh; exact (fresh x hx).2.2 hy
      · rcases List.mem_append.1 hy with hy | hy
        · intro hh; subst hh; exact (fresh x hy).2.1 hx
        · exact hp1.2.2 x hx y (by simp only [List.mem_append]; exact .inr hy)
    · rcases List.mem_append.1 hy with hy | hy
      · exact hnd.2.2 x hx y (by simp only [List.mem_append]; exact .inl hy)
      · rcases List.mem_append.1 hy with hy | hy
        · intro hh; subst hh; exact (fresh x hy).1 hx
        · exact hnd.2.2 x hx y (by simp only [List.mem_append]; exact .inr (.inr hy))
theorem flatSub {R' R : List Rw} (h : R'.Sublist R) : (R'.flatMap fun r => aF r.a).Sublist (R.flatMap fun r => aF r.a) := by
  induction h with
  | slnil => exact List.Sublist.refl _
  | cons a _ ih => rw [List.flatMap_cons]; exact ih.trans (List.sublist_append_right _ _)
  | cons_cons a _ ih => rw [List.flatMap_cons, List.flatMap_cons]; exact List.Sublist.append (List.Sublist.refl _) ih
/-- Some of it. -/
theorem sub (h : St F w0 L R w) {L' : List Bk} {R' : List Rw} (hL : L'.Sublist L) (hR : R'.Sublist R) : St F w0 L' R' w := by
  have hids : (ids L' R').Sublist (ids L R) := List.Sublist.append (hL.map _) (flatSub hR)
  exact ⟨h.kp, fun b hb => h.blk b (hL.subset hb), fun r hr => h.row r (hR.subset hr), fun x hx => h.new x (hids.subset hx), h.nd.sublist hids⟩
end St
end Go.Proofs.YtgfppmnpccaloaaDoor
