/-
  REGIONS THAT DRAW THEIR ORDER AND WRITE: one relation over what has come up so far, each operation shown once.
-/
import Derived.Test.YtgfppmnpccaloaaDoorPrf3
namespace Go.Proofs.YtgfppmnpccaloaaDoor
open Go.RowKit

section
variable {P : Program} {ops : Array Oper} {Q : Exit → Act → World → Prop} {md : Region.Mode}

def unl (l : List Bool) : Nat := l.countP (· = false)
theorem unl_set : ∀ (l : List Bool) (i : Nat), l[i]? = some false → unl (l.set i true) + 1 = unl l
  | [], _, h => by simp at h
  | b :: l, 0, h => by
    simp at h; subst h
    simp [unl]
  | b :: l, i + 1, h => by
    have := unl_set l i (by simpa using h)
    cases b <;> simp [unl] at this ⊢ <;> omega
theorem unl_pos (l : List Bool) (i : Nat) (h : l[i]? = some false) : 0 < unl l := by have := unl_set l i h; omega

theorem wpAny_inv (Inv : Array Bool → Act → World → Prop)
    (hs : ∀ l a w i, Inv l a w → i ∈ Region.ready md ops l → wpOp P ops Q i (fun a' w' => Inv (l.setIfInBounds i true) a' w') a w)
    (hd : ∀ l a w, Inv l a w → Region.ready md ops l = [] → Q .normal a w) :
    ∀ (fuel : Nat) (l : Array Bool) (a : Act) (w : World), unl l.toList ≤ fuel → Inv l a w → wpAny P md ops Q fuel l a w := by
  have hun : ∀ (l : Array Bool) (i : Nat), i ∈ Region.ready md ops l → l.toList[i]? = some false := fun l i hi => by
    have h0 := (mem_ready.1 hi).1
    rcases Nat.lt_or_ge i l.size with h | h
    · simp [h] at h0; simp [h, h0]
    · simp [Array.getElem?_eq_none h] at h0
  intro fuel
  induction fuel with
  | zero =>
    intro l a w hl hI
    have hr : Region.ready md ops l = [] := by
      cases hrr : Region.ready md ops l with
      | nil => rfl
      | cons i r =>
        have := unl_pos _ _ (hun l i (by rw [hrr]; simp))
        omega
    exact ⟨hr, hd l a w hI hr⟩
  | succ f ih =>
    intro l a w hl hI
    refine ⟨fun hr => hd l a w hI hr, fun i hi => wpOp_mono (fun a' w' h' => ih _ _ _ ?_ h') (hs l a w i hI hi)⟩
    have h1 := unl_set l.toList i (hun l i hi)
    rw [Array.toList_setIfInBounds]; omega

theorem wp_region_inv {id : Nat} {a : Act} {w : World} (hm : P.follows .mixedOrders = true) (Inv : Act → World → Array Bool → Act → World → Prop)
    (h0 : Inv a w (Array.replicate ops.size false) a w.drew)
    (hs : ∀ l a' w' i, Inv a w l a' w' → i ∈ Region.ready .any ops l → wpOp P ops Q i (fun a' w' => Inv a w (l.setIfInBounds i true) a' w') a' w')
    (hd : ∀ l a' w', Inv a w l a' w' → Region.ready .any ops l = [] → Q .normal a' w') : (Code.region id ops true).wp P Q a w :=
  wp_region_any hm (wpAny_inv (Inv a w) hs hd _ _ _ _ (by
    have h : ∀ n, unl (List.replicate n false) ≤ n := fun n => by
      unfold unl
      exact Nat.le_trans List.countP_le_length (by simp)
    simpa using h ops.size) h0)

/-- The frame is a0's but for these slots. -/
def Same (D : List Nat) (a0 a : Act) : Prop := a.defers = a0.defers ∧ a.tmps.size = a0.tmps.size ∧ ∀ t, t ∉ D → a.tmps[t]? = a0.tmps[t]?
theorem Same.refl (D : List Nat) (a : Act) : Same D a a := ⟨rfl, rfl, fun _ _ => rfl⟩
theorem put_other (a : Act) (d t : Nat) (v : Value) (h : t ≠ d) : (a.put (some d) v).tmps[t]? = a.tmps[t]? := by
  show (a.tmps.setIfInBounds d v)[t]? = _
  rw [Array.getElem?_setIfInBounds_ne (Ne.symm h)]
theorem put_self (a : Act) (d : Nat) (v : Value) (h : d < a.tmps.size) : (a.put (some d) v).tmps[d]? = some v := by
  show (a.tmps.setIfInBounds d v)[d]? = _
  rw [Array.getElem?_setIfInBounds_self_of_lt h]
theorem put_size (a : Act) (d : Nat) (v : Value) : (a.put (some d) v).tmps.size = a.tmps.size := by
  show (a.tmps.setIfInBounds d v).size = _
  rw [Array.size_setIfInBounds]
theorem Same.put {D : List Nat} {a0 a : Act} (h : Same D a0 a) (d : Nat) (v : Value) (hd : d ∈ D) : Same D a0 (a.put (some d) v) :=
  ⟨h.1, (put_size a d v).trans h.2.1, fun t ht => by rw [put_other a d t v (fun hh => ht (hh ▸ hd))]; exact h.2.2 t ht⟩
theorem Same.take {D : List Nat} {a0 a : Act} {d : Nat} {v : Value} (h : Same (d :: D) a0 a) (hv : a.tmps[d]? = some v) : Same D (a0.put (some d) v) a :=
  ⟨h.1, h.2.1.trans (put_size a0 d v).symm, fun t ht => by
    by_cases hd : t = d
    · subst hd
      have hlt : t < a0.tmps.size := by rw [← h.2.1]; exact (Array.getElem?_eq_some_iff.1 hv).1
      rw [put_self a0 t v hlt]; exact hv
    · rw [put_other a0 d t v hd]; exact h.2.2 t (by simp [hd, ht])⟩
theorem Same.eq {a0 a : Act} (h : Same [] a0 a) : a = a0 := by
  obtain ⟨h1, _, h2⟩ := h
  obtain ⟨t, d⟩ := a
  obtain ⟨t0, d0⟩ := a0
  simp only at h1 h2
  subst h1
  congr 1
  exact Array.ext_getElem? fun i => h2 i (by simp)
theorem Same.eval {D : List Nat} {a0 a : Act} (h : Same D a0 a) (t : Nat) (ht : t ∉ D) : a.eval (.tmp t) = a0.eval (.tmp t) := by
  show a.tmps.getD t undef = a0.tmps.getD t undef
  rw [Array.getD_eq_getD_getElem?, Array.getD_eq_getD_getElem?, h.2.2 t ht]
theorem eval_at {a : Act} {t : Nat} {v : Value} (h : a.tmps[t]? = some v) : a.eval (.tmp t) = v := by
  show a.tmps.getD t undef = v
  rw [Array.getD_eq_getD_getElem?, h]; rfl

/-! ### One operation, from any frame -/
variable {o : Oper} {a : Act} {w : World} {K : Act → World → Prop}
theorem wpOp_of {i : Nat} (ho : ops[i]? = some o) (hgd : o.guard = none) (h : o.wp P a w K Q) : wpOp P ops Q i K a w := by
  unfold wpOp
  rw [ho]
  simp only [Region.wanted, hgd]
  exact .inl h
theorem wp_move {x : Operand} (ho : o.op = .move x ∨ o.op = .assign x) {v : Value} (hx : a.eval x = v) (h : K (a.put o.dst v) w) : o.wp P a w K Q := by
  unfold Oper.wp execOp
  rcases ho with ho | ho <;> simp only [ho, hx, Sem.run_pure] <;> exact h
theorem wp_load_mid {ty : TypeId} {n : Nat} (T : ArT P ty n) {x : Operand} (ho : o.op = .load ty x) {b off : Nat} {cs : List Value} (hc : w.rangeAt b off cs) (hn : cs.length = n) (hx : a.eval x = .pointer (some ⟨b, off, none⟩))
    (h : K (a.put o.dst (.agg cs.toArray)) w) : o.wp P a w K Q := by
  obtain ⟨⟨k, e, hu⟩, hs⟩ := T
  have hr : (Instr.loadAt ty (.pointer (some ⟨b, off, none⟩))).run P w = .ok (.agg cs.toArray) w := run_loadAt_mid _ _ _ _ cs _ hc hu rfl (by rw [hs, hn])
  unfold Oper.wp execOp
  simp only [ho, hx, Sem.run_bind, hr, Result.andThen_ok, Sem.run_pure]
  exact h
theorem wp_store_hash {ty : TypeId} {n : Nat} (T : ArT P ty n) {x y : Operand} (ho : o.op = .store ty x y) {g : Nat} {t : TypeId} {old cs : Array Value} (hg : w.heap[g]? = some (.cells old t (0, 0))) (ho1 : old.size = n) (hn : cs.size = n) (h1 : ∀ v ∈ cs.toList, v.oneCell' = true)
    (hx : a.eval x = .pointer (some ⟨g, 0, none⟩)) (hy : a.eval y = .agg cs)
    (h : ∀ w', w'.heap[g]? = some (.cells cs t (0, 0)) → Kp [g] w w' → w'.heap.size = w.heap.size → K (a.put o.dst undef) w') : o.wp P a w K Q := by
  refine wp_store_row ty x y ho g cs hx hy t old hg (by rw [T.s, hn]) (by omega) (Array.all_eq_true_iff_forall_mem.2 fun v hv => h1 v (by simpa using hv)) ?_
  exact h _ (setRow_heap w g _ _ t _ hg) (setRow_kp _ _ _) (by simp)
theorem run_enter {f : FuncId} {fn : Func} (hf : P.funcs[f]? = some fn) (hn : (fn.name == "runtime.NumGoroutine") = false) (hb : fn.body.isNone = false) (vs : Array Value) (w : World) : (callFunc f vs).run P w = .ok (.enter f vs) w := by
  simp only [beq_eq_false_iff_ne] at hn
  have hb' : fn.body ≠ none := fun hh => by rw [hh] at hb; cases hb
  simp [callFunc, hf, hn, hb']
theorem wp_callf {f : FuncId} {fn : Func} (hf : P.funcs[f]? = some fn) (hn : (fn.name == "runtime.NumGoroutine") = false) (hb : fn.body.isNone = false) {xs : Array Operand} {ts : Array TypeId} (ho : o.op = .call { callee := .value (.func f), args := xs, argTypes := ts }) {vs : Array Value} (hx : xs.map a.eval = vs)
    (h : Calls P f vs w fun e w' => ∃ v, e = .returned v ∧ K (a.put o.dst v) w') : o.wp P a w K Q := by
  have he : execOp a.eval o = callFunc f (#[] ++ xs.map a.eval ++ #[]) := by unfold execOp; rw [ho]; rfl
  unfold Oper.wp
  rw [he, hx]
  simp only [Array.empty_append, Array.append_empty]
  rw [run_enter hf hn hb]
  refine h.mono ?_
  rintro e w' ⟨v, rfl, hk⟩
  exact hk
end
theorem Tryd.run_allocH (w : World) : (Instr.alloc 24 true (.tuple #[])).run Tryd.prog w = .ok (.pointer (some ⟨w.heap.size, 0, none⟩)) (w.alloc (.cells (hvA zeroH) 24)) := by
  go_simp
  rfl
theorem wp_allocH {Q : Exit → Act → World → Prop} {o : Oper} {a : Act} {w : World} {K : Act → World → Prop} (ho : o.op = .alloc 24)
    (h : K (a.put o.dst (.pointer (some ⟨w.heap.size, 0, none⟩))) (w.alloc (.cells (hvA zeroH) 24))) : o.wp Tryd.prog a w K Q := by
  unfold Oper.wp execOp
  simp only [ho, Sem.run_bind, Tryd.run_allocH, Result.andThen_ok, Sem.run_pure]
  exact h
/-- tag.Node, from any frame. -/
theorem wp_node {Q : Exit → Act → World → Prop} {o : Oper} {a : Act} {w : World} {K : Act → World → Prop} {p q : Operand} {ts : Array TypeId} (ho : o.op = .call { callee := .value (.func 10), args := #[p, q], argTypes := ts }) {x y : Hsh}
    (hp : a.eval p = .agg (hcs x).toArray) (hq : a.eval q = .agg (hcs y).toArray) (hL : Laid w) (h2 : 2 ≤ w.heap.size) (h : ∀ w', Kp [] w w' → K (a.put o.dst (.agg (hcs (nodeH x y)).toArray)) w') : o.wp Tryd.prog a w K Q :=
  wp_callf Tryd.func10 (by kernel_rfl) (by kernel_rfl) ho (vs := #[hv x, hv y]) (by simp [hp, hq]; exact ⟨rfl, rfl⟩) ((node_any x y w hL h2).mono fun e w' ⟨h1, h3⟩ => ⟨_, h1, h w' h3⟩)
end Go.Proofs.YtgfppmnpccaloaaDoor
