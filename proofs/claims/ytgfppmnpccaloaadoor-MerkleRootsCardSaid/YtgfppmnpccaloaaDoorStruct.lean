/-
  STRUCTS by value, over any program; a few facts on own rows.
-/
import Derived.Test.YtgfppmnpccaloaaDoorMem
import Derived.Deep.MidRow
namespace Go.Proofs.YtgfppmnpccaloaaDoor
open Go.RowKit

structure StT (P : Program) (t : TypeId) (n : Nat) : Prop where
  u : ∃ fs, P.underlying t = some (.struct fs)
  s : (P.info? t).map (·.size) = some n
theorem wpList_gets {P : Program} {ops : Array Oper} {rest : List Oper} {o : Oper} {a : Act} {w : World} {Q : Exit → Act → World → Prop} {ty : TypeId} {n : Nat} (T : StT P ty n) (hgd : o.guard = none) {x : Operand} (ho : o.op = .load ty x)
    {g : Nat} {t : TypeId} {cs : Array Value} {fr : Nat × Nat} (hg : w.heap[g]? = some (.cells cs t fr)) (hn : cs.size = n) (hx : a.eval x = .pointer (some ⟨g, 0, none⟩))
    (h : wpList P ops Q rest (a.put o.dst (.agg cs)) w) : wpList P ops Q (o :: rest) a w := by
  obtain ⟨⟨fs, hu⟩, hs⟩ := T
  exact wpList_load_row hgd ty x ho g hx t cs fr _ hg hu rfl (by rw [hs, hn]) h
theorem wpList_gets_mid {P : Program} {ops : Array Oper} {rest : List Oper} {o : Oper} {a : Act} {w : World} {Q : Exit → Act → World → Prop} {ty : TypeId} {n : Nat} (T : StT P ty n) (hgd : o.guard = none) {x : Operand} (ho : o.op = .load ty x)
    {b off : Nat} {cs : List Value} (hc : w.rangeAt b off cs) (hn : cs.length = n) (hx : a.eval x = .pointer (some ⟨b, off, none⟩))
    (h : wpList P ops Q rest (a.put o.dst (.agg cs.toArray)) w) : wpList P ops Q (o :: rest) a w := by
  obtain ⟨⟨fs, hu⟩, hs⟩ := T
  exact wpList_load_mid hgd ty x ho b off hx cs _ hc hu rfl (by rw [hs, hn]) h
theorem wpList_sets {P : Program} {ops : Array Oper} {rest : List Oper} {o : Oper} {a : Act} {w : World} {Q : Exit → Act → World → Prop} {ty : TypeId} {n : Nat} (T : StT P ty n) (hgd : o.guard = none) {x y : Operand} (ho : o.op = .store ty x y)
    {g : Nat} {t : TypeId} {old cs : Array Value} (hg : w.heap[g]? = some (.cells old t (0, 0))) (ho1 : old.size = n) (hn : cs.size = n) (h1 : ∀ v ∈ cs.toList, v.oneCell' = true) (hx : a.eval x = .pointer (some ⟨g, 0, none⟩)) (hy : a.eval y = .agg cs)
    (h : ∀ w', w'.heap[g]? = some (.cells cs t (0, 0)) → Kp [g] w w' → w'.heap.size = w.heap.size → wpList P ops Q rest (a.put o.dst undef) w') : wpList P ops Q (o :: rest) a w := by
  refine wpList_store_row hgd ty x y ho g cs hx hy t old hg (by rw [T.s, hn]) (by omega) (Array.all_eq_true_iff_forall_mem.2 fun v hv => h1 v (by simpa using hv)) ?_
  exact h _ (setRow_heap w g _ _ t _ hg) (setRow_kp _ _ _) (by simp)

theorem own_block {a : Option Addr} {n c : Nat} : Value.ownBlock (.slice a n c) = a.map (·.block) := by cases a <;> rfl
theorem row_kept {w w' : World} {a : Option Addr} {n c size e : Nat} {xs : List Value} {F0 : List Nat} (h : w.ownsRow 0 e size (.slice a n c) n xs) (k : Kp F0 w w') (hF : ∀ x ∈ aF a, x ∉ F0) : w'.ownsRow 0 e size (.slice a n c) n xs :=
  own_kept h k (by rw [rowF_slice]; exact hF)
theorem Rd.kept2 {F : List Nat} {w w' : World} {a : Option Addr} {n c size : Nat} {xs : List Value} (h : Rd w a n c size xs) (k : Kp F w w') (hF : 0 < xs.length → ∀ x ∈ aF a, x ∉ F) : Rd w' a n c size xs := by
  by_cases hp : 0 < xs.length
  · exact h.kept k (hF hp)
  · have : xs = [] := List.eq_nil_of_length_eq_zero (by omega)
    subst this
    exact ⟨h.len, h.le, h.max, h.nil, by simp⟩
/-- An append onto an own row: what it leaves of everything else. -/
theorem Kp.pushed {F : List Nat} {a w w' : World} {av : Option Addr} {n c : Nat} (h : Kp F a w) (hg : w.grownBy w' (Value.ownBlock (.slice av n c))) (hF : ∀ x ∈ aF av, x ∈ F ∨ a.heap.size ≤ x) : Kp F a w' :=
  h.grown hg fun k hk => by
    rw [own_block] at hk
    cases av with
    | none => cases hk
    | some b => simp at hk; subst hk; exact hF _ (by simp [aF])
theorem Adv.all {F F' : List Nat} {w w' : World} (h : Adv F F' w w') {B : Nat} (hF : ∀ x ∈ F, B ≤ x) (hB : B ≤ w.heap.size) : ∀ x ∈ F', B ≤ x := fun x hx => by
  rcases h.gr x hx with h1 | h1
  · exact hF x h1
  · omega
/-- A new block, and a store into it. -/
theorem kp_box {w w' : World} {o : Obj} (k : Kp [w.heap.size] (w.alloc o) w') (s : w'.heap.size = (w.alloc o).heap.size) : Kp [] w w' :=
  ⟨k.os, k.tape, k.output, by rw [s]; simp, fun i hi _ => (k.block i (by simp; omega) (by simp; omega)).trans (heap_alloc_old w _ hi)⟩
theorem Tryd.tbytes : ∃ i, SlT Tryd.prog 40 5 i (.int .u8 0) 1 1 := SlT.mk' Tryd.underlying40 (by kernel_rfl) rfl (by decide)
theorem Tryd.thash : ArT Tryd.prog 24 32 := ⟨⟨_, _, Tryd.underlying24⟩, by kernel_rfl⟩
/-- Where the hash k of a list lies. -/
theorem rd_hash {w : World} {b off : Nat} {l : List Hsh} (hc : ∀ j u, (hsc l)[j]? = some u → w.cell? ⟨b, off + j, none⟩ = some u) (k : Nat) (hk : k < l.length) : w.rangeAt b (off + k * 32) (hcs l[k]) := by
  intro j v hj
  rw [Nat.add_assoc]
  exact hc _ _ (hsc_at l k hk j v hj)

theorem Tryd.thashes : ∃ i, SlT Tryd.prog 22 24 i (hv zeroH) 32 32 := SlT.mk' Tryd.underlying22 (by kernel_rfl) (hvA_size _) (by decide)
end Go.Proofs.YtgfppmnpccaloaaDoor
