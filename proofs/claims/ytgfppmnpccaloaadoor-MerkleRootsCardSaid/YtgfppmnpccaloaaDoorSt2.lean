/-
  THE STEPS over what a call has made (XSt). Printed by gen_st2.py.
-/
import Derived.Test.YtgfppmnpccaloaaDoorSt
namespace Go.Proofs.YtgfppmnpccaloaaDoor
open Go.RowKit

/-- A type of cells in a row: an array, a struct. -/
structure AgT (P : Program) (t : TypeId) (n : Nat) : Prop where
  u : ∃ d, P.underlying t = some d ∧ d.isRow = true
  s : (P.info? t).map (·.size) = some n
/-- A type of one cell. -/
structure ScT (P : Program) (t : TypeId) : Prop where
  u : ∃ d, P.underlying t = some d ∧ d.isRow = false
  s : (P.info? t).map (·.size) = some 1
/-- A type's zero. -/
def ZeT (P : Program) (t : TypeId) (z : Value) : Prop := ∃ i, P.info? t = some i ∧ i.zero = some z
theorem ArT.ag {P : Program} {t : TypeId} {n : Nat} (T : ArT P t n) : AgT P t n := by obtain ⟨⟨k, e, hu⟩, hs⟩ := T; exact ⟨⟨_, hu, rfl⟩, hs⟩
theorem StT.ag {P : Program} {t : TypeId} {n : Nat} (T : StT P t n) : AgT P t n := by obtain ⟨⟨fs, hu⟩, hs⟩ := T; exact ⟨⟨_, hu, rfl⟩, hs⟩
theorem AgT.mk' {P : Program} {t : TypeId} {n : Nat} {d : TypeDesc} (hu : P.underlying t = some d) (hd : d.isRow = true) (hs : (P.info? t).map (·.size) = some n) : AgT P t n := ⟨⟨d, hu, hd⟩, hs⟩
theorem ScT.mk' {P : Program} {t : TypeId} {d : TypeDesc} (hu : P.underlying t = some d) (hd : d.isRow = false) (hs : (P.info? t).map (·.size) = some 1) : ScT P t := ⟨⟨d, hu, hd⟩, hs⟩
theorem ZeT.mk' {P : Program} {t : TypeId} {z : Value} (h : (P.info? t).map (·.zero) = some (some z)) : ZeT P t z := by
  cases hi : P.info? t with
  | none => rw [hi] at h; cases h
  | some i => rw [hi] at h; exact ⟨i, hi, by simpa using h⟩

section
variable {P : Program} {o : Oper} {a : Act} {w : World} {K : Act → World → Prop} {Q : Exit → Act → World → Prop}

theorem run_loadAt_cell {ty : TypeId} (T : ScT P ty) {p : Addr} {v : Value} (h : w.cell? p = some v) : (Instr.loadAt ty (.pointer (some p))).run P w = .ok v w := by
  obtain ⟨⟨d, hu, hd⟩, _⟩ := T
  have hagg : (isAgg ty).run P w = .ok false w := by
    unfold isAgg
    rw [Sem.run_bind, run_underlying hu w]
    cases d <;> simp_all
  have hl : (load p).run P w = .ok v w := by rw [run_load, h]
  simp only [Instr.loadAt, Instr.sureAddr, loadVar, Sem.run_bind, Sem.run_pure, Result.andThen_ok, hagg, Bool.false_eq_true, if_false, hl]
theorem run_storeAt_blk {ty : TypeId} {g off : Nat} {t : TypeId} {old : Array Value} {v : Value} (hg : w.heap[g]? = some (.cells old t (0, 0))) (hi : (P.info? ty).map (·.size) = some v.cells.size) (hfit : off + v.cells.size ≤ old.size)
    (h1 : ∀ u ∈ v.cells.toList, u.oneCell' = true) : (Instr.storeAt ty (.pointer (some ⟨g, off, none⟩)) v).run P w = .ok () (w.setCells g off v.cells.toList) := by
  have := run_storeCells_cells (P := P) g off v.cells.toList 0 w (fun j hj => by
      rw [Nat.add_zero, cell_of_row w g _ _ _ _ hg, Array.getElem?_eq_getElem (by simp at hj; omega)]; rfl) (fun j hj => by
      exact frozen_of_row w g _ _ _ hg) h1
  simp only [Nat.add_zero] at this
  cases hq : P.info? ty with
  | none => simp [hq] at hi
  | some i =>
    have hs : v.cells.size = i.size := by simp [hq] at hi; omega
    simp [Instr.storeAt, Instr.sureAddr, storeVar, sizeOf, typeInfo, hq, hs, this]

theorem wp_new_any {ty : TypeId} {z : Value} (Z : ZeT P ty z) (ho : o.op = .alloc ty) (h : K (a.put o.dst (.pointer (some ⟨w.heap.size, 0, none⟩))) (w.alloc (.cells z.cells ty))) : o.wp P a w K Q := by
  obtain ⟨i, hi, hz⟩ := Z
  have hr : (Instr.alloc ty true (.tuple #[])).run P w = .ok (.pointer (some ⟨w.heap.size, 0, none⟩)) (w.alloc (.cells z.cells ty)) := by
    simp [Instr.alloc, zeroValue, typeInfo, hi, hz, newVar, newRow]
  unfold Oper.wp execOp
  simp only [ho, Sem.run_bind, hr, Result.andThen_ok, Sem.run_pure]
  exact h
theorem wp_box_any {ty : TypeId} {x : Operand} {v : Value} (ho : o.op = .box ty x) (hx : a.eval x = v) (h : K (a.put o.dst (.pointer (some ⟨w.heap.size, 0, none⟩))) (w.alloc (.cells v.cells ty))) : o.wp P a w K Q := by
  have hr : (Instr.box ty v).run P w = .ok (.pointer (some ⟨w.heap.size, 0, none⟩)) (w.alloc (.cells v.cells ty)) := by
    simp [Instr.box, newVar, newRow]
  unfold Oper.wp execOp
  simp only [ho, hx, Sem.run_bind, hr, Result.andThen_ok, Sem.run_pure]
  exact h
theorem wp_lit_any {t e : TypeId} {i : TypeInfo} {z : Value} {size bytes : Nat} (T : SlT P t e i z size bytes)
    {n : Nat} {parts : Array (Nat × Operand)} (ho : o.op = .buildSlice t n parts) (vs : List Value) (hn : n = vs.length) (hp : (parts.map fun (i, x) => (i, a.eval x)) = ((vs.zipIdx 0).map fun p => (p.2, p.1)).toArray)
    (hv : ∀ v ∈ vs, v.cells.size = size) (hb : vs.length * size ≤ 16777216)
    (h : K (a.put o.dst (.slice (some ⟨w.heap.size, 0, none⟩) n n)) (w.alloc (.cells (flatV vs).toArray e))) : o.wp P a w K Q := by
  have hr := run_buildSlice_all (w := w) T vs hv hb
  unfold Oper.wp execOp
  simp only [ho, hp, hn, Sem.run_bind, Sem.run_pure, Result.andThen_ok, hr]
  subst hn
  exact h
theorem wp_get_blk {ty : TypeId} {n : Nat} (T : AgT P ty n) {x : Operand} (ho : o.op = .load ty x) {g off : Nat} {c : Array Value} {t : TypeId} (hg : w.heap[g]? = some (.cells c t (0, 0))) {mid : List Value} (hm : (c.toList.drop off).take n = mid) (hl : mid.length = n)
    (hx : a.eval x = .pointer (some ⟨g, off, none⟩)) (h : K (a.put o.dst (.agg mid.toArray)) w) : o.wp P a w K Q := by
  obtain ⟨⟨d, hu, hd⟩, hs⟩ := T
  refine Go.wp_load_mid ty x ho g off hx mid d (fun j v hv => ?_) hu hd (by rw [hs, hl]) h
  rw [cell_of_row w g _ _ _ _ hg]
  rw [← hm, List.getElem?_take] at hv
  split at hv
  · rw [List.getElem?_drop] at hv; simpa using hv
  · cases hv
theorem wp_cell_blk {ty : TypeId} (T : ScT P ty) {x : Operand} (ho : o.op = .load ty x) {g off : Nat} {c : Array Value} {t : TypeId} (hg : w.heap[g]? = some (.cells c t (0, 0))) {v : Value} (hk : c[off]? = some v)
    (hx : a.eval x = .pointer (some ⟨g, off, none⟩)) (h : K (a.put o.dst v) w) : o.wp P a w K Q := by
  have hr := run_loadAt_cell (P := P) T (p := ⟨g, off, none⟩) ((cell_of_row w g off _ _ _ hg).trans hk)
  unfold Oper.wp execOp
  simp only [ho, hx, Sem.run_bind, hr, Result.andThen_ok, Sem.run_pure]
  exact h
theorem wp_put_blk {ty : TypeId} {n : Nat} (hs : (P.info? ty).map (·.size) = some n) {x y : Operand} (ho : o.op = .store ty x y) {g off : Nat} {t : TypeId} {old : Array Value} (hg : w.heap[g]? = some (.cells old t (0, 0))) {v : Value} (hn : v.cells.size = n) (hfit : off + n ≤ old.size)
    (h1 : ∀ u ∈ v.cells.toList, u.oneCell' = true) (hx : a.eval x = .pointer (some ⟨g, off, none⟩)) (hy : a.eval y = v)
    (h : ∀ w', w'.heap[g]? = some (.cells (old.toList.take off ++ v.cells.toList ++ old.toList.drop (off + n)).toArray t (0, 0)) → Kp [g] w w' → K (a.put o.dst undef) w') : o.wp P a w K Q := by
  have hr := run_storeAt_blk (P := P) (w := w) (ty := ty) hg (by rw [hs, hn]) (by rw [hn]; exact hfit) h1
  unfold Oper.wp execOp
  simp only [ho, hx, hy, Sem.run_bind, hr, Result.andThen_ok, Sem.run_pure]
  refine h _ ?_ (kp_setCells g _ off w)
  have := heap_setCells g t v.cells.toList off w old hg (by simp [hn]; omega)
  rw [this]; simp [hn]
end

section
variable {P : Program} {ops : Array Oper} {rest : List Oper} {o : Oper} {a : Act} {w : World} {Q : Exit → Act → World → Prop} {F : List Nat} {w0 : World} {L : List Bk} {R : List Rw}

theorem wpList_wanted (hw : Region.wanted o (yielded ops a.tmps) = true) (h : ∀ K : Act → World → Prop, (∀ a w, wpList P ops Q rest a w → K a w) → o.wp P a w K Q) : wpList P ops Q (o :: rest) a w :=
  wpList_step fun K hK => by rw [if_pos hw]; exact h K hK
/-! ### Guards: which kind is it? -/
theorem isLoad {ty : TypeId} {x : Operand} (_ : o.op = .load ty x) (h : wpList P ops Q (o :: rest) a w) : wpList P ops Q (o :: rest) a w := h
theorem isStore {ty : TypeId} {x y : Operand} (_ : o.op = .store ty x y) (h : wpList P ops Q (o :: rest) a w) : wpList P ops Q (o :: rest) a w := h

theorem wNewS {K : Act → World → Prop} (hS : St F w0 L R w) {ty : TypeId} {z : Value} (Z : ZeT P ty z) (ho : o.op = .alloc ty) {c : Array Value} (hc : z.cells = c)
    (h : ∀ g w', St F w0 (⟨g, c, ty⟩ :: L) R w' → K (a.put o.dst (.pointer (some ⟨g, 0, none⟩))) w') : o.wp P a w K Q := wp_new_any Z ho (h _ _ (hc ▸ hS.alloc z.cells ty))
theorem wLitS {K : Act → World → Prop} (hS : St F w0 L R w) {t e : TypeId} {i : TypeInfo} {z : Value} {size bytes : Nat} (T : SlT P t e i z size bytes)
    {n : Nat} {parts : Array (Nat × Operand)} (ho : o.op = .buildSlice t n parts) (vs : List Value) (hn : n = vs.length) (hp : (parts.map fun (i, x) => (i, a.eval x)) = ((vs.zipIdx 0).map fun p => (p.2, p.1)).toArray)
    (hv : ∀ v ∈ vs, v.cells.size = size) (hb : vs.length * size ≤ 16777216) {c : Array Value} (hc : (flatV vs).toArray = c)
    (h : ∀ g w', St F w0 (⟨g, c, e⟩ :: L) R w' → K (a.put o.dst (.slice (some ⟨g, 0, none⟩) n n)) w') : o.wp P a w K Q := wp_lit_any T ho vs hn hp hv hb (h _ _ (hc ▸ hS.alloc (flatV vs).toArray e))
theorem newS (hS : St F w0 L R w) {ty : TypeId} {z : Value} (Z : ZeT P ty z) (hw : Region.wanted o (yielded ops a.tmps) = true) (ho : o.op = .alloc ty) {c : Array Value} (hc : z.cells = c)
    (h : ∀ g w', St F w0 (⟨g, c, ty⟩ :: L) R w' → wpList P ops Q rest (a.put o.dst (.pointer (some ⟨g, 0, none⟩))) w') : wpList P ops Q (o :: rest) a w :=
  wpList_wanted hw fun _ hK => wp_new_any Z ho (hK _ _ (h _ _ (hc ▸ hS.alloc z.cells ty)))
theorem boxS (hS : St F w0 L R w) (hw : Region.wanted o (yielded ops a.tmps) = true) {ty : TypeId} {x : Operand} (ho : o.op = .box ty x) {v : Value} (hx : a.eval x = v) {c : Array Value} (hc : v.cells = c)
    (h : ∀ g w', St F w0 (⟨g, c, ty⟩ :: L) R w' → wpList P ops Q rest (a.put o.dst (.pointer (some ⟨g, 0, none⟩))) w') : wpList P ops Q (o :: rest) a w :=
  wpList_wanted hw fun _ hK => wp_box_any ho hx (hK _ _ (h _ _ (hc ▸ hS.alloc v.cells ty)))
theorem litS (hS : St F w0 L R w) {t e : TypeId} {i : TypeInfo} {z : Value} {size bytes : Nat} (T : SlT P t e i z size bytes) (hw : Region.wanted o (yielded ops a.tmps) = true)
    {n : Nat} {parts : Array (Nat × Operand)} (ho : o.op = .buildSlice t n parts) (vs : List Value) (hn : n = vs.length) (hp : (parts.map fun (i, x) => (i, a.eval x)) = ((vs.zipIdx 0).map fun p => (p.2, p.1)).toArray)
    (hv : ∀ v ∈ vs, v.cells.size = size) (hb : vs.length * size ≤ 16777216) {c : Array Value} (hc : (flatV vs).toArray = c)
    (h : ∀ g w', St F w0 (⟨g, c, e⟩ :: L) R w' → wpList P ops Q rest (a.put o.dst (.slice (some ⟨g, 0, none⟩) n n)) w') : wpList P ops Q (o :: rest) a w :=
  wpList_wanted hw fun _ hK => wp_lit_any T ho vs hn hp hv hb (hK _ _ (h _ _ (hc ▸ hS.alloc (flatV vs).toArray e)))

theorem getS0 {ty : TypeId} {n : Nat} {g : Nat} {c : Array Value} {t : TypeId} (hS : St F w0 (⟨g, c, t⟩ :: L) R w) (T : AgT P ty n) (hw : Region.wanted o (yielded ops a.tmps) = true) {x : Operand} (ho : o.op = .load ty x) (hx : a.eval x = .pointer (some ⟨g, 0, none⟩)) (hn : c.size = n)
    (h : wpList P ops Q rest (a.put o.dst (.agg c)) w) : wpList P ops Q (o :: rest) a w :=
  wpList_wanted hw fun _ hK => wp_get_blk T ho (hS.blk ⟨g, c, t⟩ (by simp)) (mid := c.toList) (by rw [List.drop_zero, List.take_of_length_le (by simp [hn])]) (by simpa using hn) hx (hK _ _ h)
theorem getfS0 {ty : TypeId} {n : Nat} {g off : Nat} {c : Array Value} {t : TypeId} (hS : St F w0 (⟨g, c, t⟩ :: L) R w) (T : AgT P ty n) (hw : Region.wanted o (yielded ops a.tmps) = true) {x : Operand} (ho : o.op = .load ty x) (hx : a.eval x = .pointer (some ⟨g, off, none⟩)) {mid : List Value} (hm : (c.toList.drop off).take n = mid) (hl : mid.length = n)
    (h : wpList P ops Q rest (a.put o.dst (.agg mid.toArray)) w) : wpList P ops Q (o :: rest) a w :=
  wpList_wanted hw fun _ hK => wp_get_blk T ho (hS.blk ⟨g, c, t⟩ (by simp)) hm hl hx (hK _ _ h)
theorem cellS0 {ty : TypeId} {g off : Nat} {c : Array Value} {t : TypeId} (hS : St F w0 (⟨g, c, t⟩ :: L) R w) (T : ScT P ty) (hw : Region.wanted o (yielded ops a.tmps) = true) {x : Operand} (ho : o.op = .load ty x) (hx : a.eval x = .pointer (some ⟨g, off, none⟩)) {v : Value} (hk : c[off]? = some v)
    (h : wpList P ops Q rest (a.put o.dst v) w) : wpList P ops Q (o :: rest) a w :=
  wpList_wanted hw fun _ hK => wp_cell_blk T ho (hS.blk ⟨g, c, t⟩ (by simp)) hk hx (hK _ _ h)
theorem wSetS0 {K : Act → World → Prop} {ty : TypeId} {n : Nat} {g : Nat} {old : Array Value} {t : TypeId} (hS : St F w0 (⟨g, old, t⟩ :: L) R w) (T : AgT P ty n) {x y : Operand} (ho : o.op = .store ty x y) (hx : a.eval x = .pointer (some ⟨g, 0, none⟩)) (ho1 : old.size = n) {c : Array Value} (hy : a.eval y = .agg c) (hn : c.size = n) (h1 : ∀ v ∈ c.toList, v.oneCell' = true)
    (h : ∀ w', St F w0 (⟨g, c, t⟩ :: L) R w' → K (a.put o.dst undef) w') : o.wp P a w K Q :=
  wp_put_blk T.s ho (hS.blk ⟨g, old, t⟩ (by simp)) (v := .agg c) hn (off := 0) (by show 0 + n ≤ old.size; omega) h1 hx hy fun w' hg k => h w' (St.set (L1 := []) (b := ⟨g, old, t⟩) hS (by
    rw [hg]; simp only [List.take_zero, List.nil_append, Value.cells, Nat.zero_add]; rw [List.drop_eq_nil_of_le (by simp; omega)]; simp) k)
theorem setS0 {ty : TypeId} {n : Nat} {g : Nat} {old : Array Value} {t : TypeId} (hS : St F w0 (⟨g, old, t⟩ :: L) R w) (T : AgT P ty n) (hw : Region.wanted o (yielded ops a.tmps) = true) {x y : Operand} (ho : o.op = .store ty x y) (hx : a.eval x = .pointer (some ⟨g, 0, none⟩)) (ho1 : old.size = n) {c : Array Value} (hy : a.eval y = .agg c) (hn : c.size = n) (h1 : ∀ v ∈ c.toList, v.oneCell' = true)
    (h : ∀ w', St F w0 (⟨g, c, t⟩ :: L) R w' → wpList P ops Q rest (a.put o.dst undef) w') : wpList P ops Q (o :: rest) a w :=
  wpList_wanted hw fun _ hK => wSetS0 hS T ho hx ho1 hy hn h1 fun w' hs => hK _ _ (h w' hs)
theorem wSetfS0 {K : Act → World → Prop} {ty : TypeId} {n : Nat} {g off : Nat} {old : Array Value} {t : TypeId} (hS : St F w0 (⟨g, old, t⟩ :: L) R w) (hs : (P.info? ty).map (·.size) = some n) {x y : Operand} (ho : o.op = .store ty x y) (hx : a.eval x = .pointer (some ⟨g, off, none⟩)) (hfit : off + n ≤ old.size) {v : Value} (hy : a.eval y = v) (hn : v.cells.size = n) (h1 : ∀ u ∈ v.cells.toList, u.oneCell' = true)
    {c : Array Value} (hc : (old.toList.take off ++ v.cells.toList ++ old.toList.drop (off + n)).toArray = c) (h : ∀ w', St F w0 (⟨g, c, t⟩ :: L) R w' → K (a.put o.dst undef) w') : o.wp P a w K Q :=
  wp_put_blk hs ho (hS.blk ⟨g, old, t⟩ (by simp)) hn hfit h1 hx hy fun w' hg k => h w' (St.set (L1 := []) (b := ⟨g, old, t⟩) hS (by rw [hg, hc]) k)
theorem setfS0 {ty : TypeId} {n : Nat} {g off : Nat} {old : Array Value} {t : TypeId} (hS : St F w0 (⟨g, old, t⟩ :: L) R w) (hs : (P.info? ty).map (·.size) = some n) (hw : Region.wanted o (yielded ops a.tmps) = true) {x y : Operand} (ho : o.op = .store ty x y) (hx : a.eval x = .pointer (some ⟨g, off, none⟩)) (hfit : off + n ≤ old.size) {v : Value} (hy : a.eval y = v) (hn : v.cells.size = n) (h1 : ∀ u ∈ v.cells.toList, u.oneCell' = true)
    {c : Array Value} (hc : (old.toList.take off ++ v.cells.toList ++ old.toList.drop (off + n)).toArray = c) (h : ∀ w', St F w0 (⟨g, c, t⟩ :: L) R w' → wpList P ops Q rest (a.put o.dst undef) w') : wpList P ops Q (o :: rest) a w :=
  wpList_wanted hw fun _ hK => wp_put_blk hs ho (hS.blk ⟨g, old, t⟩ (by simp)) hn hfit h1 hx hy fun w' hg k => hK _ _ (h w' (St.set (L1 := []) (b := ⟨g, old, t⟩) hS (by rw [hg, hc]) k))
theorem getS1 {ty : TypeId} {n : Nat} {g : Nat} {c : Array Value} {t : TypeId} {x0 : Bk} (hS : St F w0 (x0 :: ⟨g, c, t⟩ :: L) R w) (T : AgT P ty n) (hw : Region.wanted o (yielded ops a.tmps) = true) {x : Operand} (ho : o.op = .load ty x) (hx : a.eval x = .pointer (some ⟨g, 0, none⟩)) (hn : c.size = n)
    (h : wpList P ops Q rest (a.put o.dst (.agg c)) w) : wpList P ops Q (o :: rest) a w :=
  wpList_wanted hw fun _ hK => wp_get_blk T ho (hS.blk ⟨g, c, t⟩ (by simp)) (mid := c.toList) (by rw [List.drop_zero, List.take_of_length_le (by simp [hn])]) (by simpa using hn) hx (hK _ _ h)
theorem getfS1 {ty : TypeId} {n : Nat} {g off : Nat} {c : Array Value} {t : TypeId} {x0 : Bk} (hS : St F w0 (x0 :: ⟨g, c, t⟩ :: L) R w) (T : AgT P ty n) (hw : Region.wanted o (yielded ops a.tmps) = true) {x : Operand} (ho : o.op = .load ty x) (hx : a.eval x = .pointer (some ⟨g, off, none⟩)) {mid : List Value} (hm : (c.toList.drop off).take n = mid) (hl : mid.length = n)
    (h : wpList P ops Q rest (a.put o.dst (.agg mid.toArray)) w) : wpList P ops Q (o :: rest) a w :=
  wpList_wanted hw fun _ hK => wp_get_blk T ho (hS.blk ⟨g, c, t⟩ (by simp)) hm hl hx (hK _ _ h)
theorem cellS1 {ty : TypeId} {g off : Nat} {c : Array Value} {t : TypeId} {x0 : Bk} (hS : St F w0 (x0 :: ⟨g, c, t⟩ :: L) R w) (T : ScT P ty) (hw : Region.wanted o (yielded ops a.tmps) = true) {x : Operand} (ho : o.op = .load ty x) (hx : a.eval x = .pointer (some ⟨g, off, none⟩)) {v : Value} (hk : c[off]? = some v)
    (h : wpList P ops Q rest (a.put o.dst v) w) : wpList P ops Q (o :: rest) a w :=
  wpList_wanted hw fun _ hK => wp_cell_blk T ho (hS.blk ⟨g, c, t⟩ (by simp)) hk hx (hK _ _ h)
theorem wSetS1 {K : Act → World → Prop} {ty : TypeId} {n : Nat} {g : Nat} {old : Array Value} {t : TypeId} {x0 : Bk} (hS : St F w0 (x0 :: ⟨g, old, t⟩ :: L) R w) (T : AgT P ty n) {x y : Operand} (ho : o.op = .store ty x y) (hx : a.eval x = .pointer (some ⟨g, 0, none⟩)) (ho1 : old.size = n) {c : Array Value} (hy : a.eval y = .agg c) (hn : c.size = n) (h1 : ∀ v ∈ c.toList, v.oneCell' = true)
    (h : ∀ w', St F w0 (x0 :: ⟨g, c, t⟩ :: L) R w' → K (a.put o.dst undef) w') : o.wp P a w K Q :=
  wp_put_blk T.s ho (hS.blk ⟨g, old, t⟩ (by simp)) (v := .agg c) hn (off := 0) (by show 0 + n ≤ old.size; omega) h1 hx hy fun w' hg k => h w' (St.set (L1 := [x0]) (b := ⟨g, old, t⟩) hS (by
    rw [hg]; simp only [List.take_zero, List.nil_append, Value.cells, Nat.zero_add]; rw [List.drop_eq_nil_of_le (by simp; omega)]; simp) k)
theorem setS1 {ty : TypeId} {n : Nat} {g : Nat} {old : Array Value} {t : TypeId} {x0 : Bk} (hS : St F w0 (x0 :: ⟨g, old, t⟩ :: L) R w) (T : AgT P ty n) (hw : Region.wanted o (yielded ops a.tmps) = true) {x y : Operand} (ho : o.op = .store ty x y) (hx : a.eval x = .pointer (some ⟨g, 0, none⟩)) (ho1 : old.size = n) {c : Array Value} (hy : a.eval y = .agg c) (hn : c.size = n) (h1 : ∀ v ∈ c.toList, v.oneCell' = true)
    (h : ∀ w', St F w0 (x0 :: ⟨g, c, t⟩ :: L) R w' → wpList P ops Q rest (a.put o.dst undef) w') : wpList P ops Q (o :: rest) a w :=
  wpList_wanted hw fun _ hK => wSetS1 hS T ho hx ho1 hy hn h1 fun w' hs => hK _ _ (h w' hs)
theorem wSetfS1 {K : Act → World → Prop} {ty : TypeId} {n : Nat} {g off : Nat} {old : Array Value} {t : TypeId} {x0 : Bk} (hS : St F w0 (x0 :: ⟨g, old, t⟩ :: L) R w) (hs : (P.info? ty).map (·.size) = some n) {x y : Operand} (ho : o.op = .store ty x y) (hx : a.eval x = .pointer (some ⟨g, off, none⟩)) (hfit : off + n ≤ old.size) {v : Value} (hy : a.eval y = v) (hn : v.cells.size = n) (h1 : ∀ u ∈ v.cells.toList, u.oneCell' = true)
    {c : Array Value} (hc : (old.toList.take off ++ v.cells.toList ++ old.toList.drop (off + n)).toArray = c) (h : ∀ w', St F w0 (x0 :: ⟨g, c, t⟩ :: L) R w' → K (a.put o.dst undef) w') : o.wp P a w K Q :=
  wp_put_blk hs ho (hS.blk ⟨g, old, t⟩ (by simp)) hn hfit h1 hx hy fun w' hg k => h w' (St.set (L1 := [x0]) (b := ⟨g, old, t⟩) hS (by rw [hg, hc]) k)
theorem setfS1 {ty : TypeId} {n : Nat} {g off : Nat} {old : Array Value} {t : TypeId} {x0 : Bk} (hS : St F w0 (x0 :: ⟨g, old, t⟩ :: L) R w) (hs : (P.info? ty).map (·.size) = some n) (hw : Region.wanted o (yielded ops a.tmps) = true) {x y : Operand} (ho : o.op = .store ty x y) (hx : a.eval x = .pointer (some ⟨g, off, none⟩)) (hfit : off + n ≤ old.size) {v : Value} (hy : a.eval y = v) (hn : v.cells.size = n) (h1 : ∀ u ∈ v.cells.toList, u.oneCell' = true)
    {c : Array Value} (hc : (old.toList.take off ++ v.cells.toList ++ old.toList.drop (off + n)).toArray = c) (h : ∀ w', St F w0 (x0 :: ⟨g, c, t⟩ :: L) R w' → wpList P ops Q rest (a.put o.dst undef) w') : wpList P ops Q (o :: rest) a w :=
  wpList_wanted hw fun _ hK => wp_put_blk hs ho (hS.blk ⟨g, old, t⟩ (by simp)) hn hfit h1 hx hy fun w' hg k => hK _ _ (h w' (St.set (L1 := [x0]) (b := ⟨g, old, t⟩) hS (by rw [hg, hc]) k))
theorem getS2 {ty : TypeId} {n : Nat} {g : Nat} {c : Array Value} {t : TypeId} {x0 x1 : Bk} (hS : St F w0 (x0 :: x1 :: ⟨g, c, t⟩ :: L) R w) (T : AgT P ty n) (hw : Region.wanted o (yielded ops a.tmps) = true) {x : Operand} (ho : o.op = .load ty x) (hx : a.eval x = .pointer (some ⟨g, 0, none⟩)) (hn : c.size = n)
    (h : wpList P ops Q rest (a.put o.dst (.agg c)) w) : wpList P ops Q (o :: rest) a w :=
  wpList_wanted hw fun _ hK => wp_get_blk T ho (hS.blk ⟨g, c, t⟩ (by simp)) (mid := c.toList) (by rw [List.drop_zero, List.take_of_length_le (by simp [hn])]) (by simpa using hn) hx (hK _ _ h)
theorem getfS2 {ty : TypeId} {n : Nat} {g off : Nat} {c : Array Value} {t : TypeId} {x0 x1 : Bk} (hS : St F w0 (x0 :: x1 :: ⟨g, c, t⟩ :: L) R w) (T : AgT P ty n) (hw : Region.wanted o (yielded ops a.tmps) = true) {x : Operand} (ho : o.op = .load ty x) (hx : a.eval x = .pointer (some ⟨g, off, none⟩)) {mid : List Value} (hm : (c.toList.drop off).take n = mid) (hl : mid.length = n)
    (h : wpList P ops Q rest (a.put o.dst (.agg mid.toArray)) w) : wpList P ops Q (o :: rest) a w :=
  wpList_wanted hw fun _ hK => wp_get_blk T ho (hS.blk ⟨g, c, t⟩ (by simp)) hm hl hx (hK _ _ h)
theorem cellS2 {ty : TypeId} {g off : Nat} {c : Array Value} {t : TypeId} {x0 x1 : Bk} (hS : St F w0 (x0 :: x1 :: ⟨g, c, t⟩ :: L) R w) (T : ScT P ty) (hw : Region.wanted o (yielded ops a.tmps) = true) {x : Operand} (ho : o.op = .load ty x) (hx : a.eval x = .pointer (some ⟨g, off, none⟩)) {v : Value} (hk : c[off]? = some v)
    (h : wpList P ops Q rest (a.put o.dst v) w) : wpList P ops Q (o :: rest) a w :=
  wpList_wanted hw fun _ hK => wp_cell_blk T ho (hS.blk ⟨g, c, t⟩ (by simp)) hk hx (hK _ _ h)
theorem wSetS2 {K : Act → World → Prop} {ty : TypeId} {n : Nat} {g : Nat} {old : Array Value} {t : TypeId} {x0 x1 : Bk} (hS : St F w0 (x0 :: x1 :: ⟨g, old, t⟩ :: L) R w) (T : AgT P ty n) {x y : Operand} (ho : o.op = .store ty x y) (hx : a.eval x = .pointer (some ⟨g, 0, none⟩)) (ho1 : old.size = n) {c : Array Value} (hy : a.eval y = .agg c) (hn : c.size = n) (h1 : ∀ v ∈ c.toList, v.oneCell' = true)
    (h : ∀ w', St F w0 (x0 :: x1 :: ⟨g, c, t⟩ :: L) R w' → K (a.put o.dst undef) w') : o.wp P a w K Q :=
  wp_put_blk T.s ho (hS.blk ⟨g, old, t⟩ (by simp)) (v := .agg c) hn (off := 0) (by show 0 + n ≤ old.size; omega) h1 hx hy fun w' hg k => h w' (St.set (L1 := [x0, x1]) (b := ⟨g, old, t⟩) hS (by
    rw [hg]; simp only [List.take_zero, List.nil_append, Value.cells, Nat.zero_add]; rw [List.drop_eq_nil_of_le (by simp; omega)]; simp) k)
theorem setS2 {ty : TypeId} {n : Nat} {g : Nat} {old : Array Value} {t : TypeId} {x0 x1 : Bk} (hS : St F w0 (x0 :: x1 :: ⟨g, old, t⟩ :: L) R w) (T : AgT P ty n) (hw : Region.wanted o (yielded ops a.tmps) = true) {x y : Operand} (ho : o.op = .store ty x y) (hx : a.eval x = .pointer (some ⟨g, 0, none⟩)) (ho1 : old.size = n) {c : Array Value} (hy : a.eval y = .agg c) (hn : c.size = n) (h1 : ∀ v ∈ c.toList, v.oneCell' = true)
    (h : ∀ w', St F w0 (x0 :: x1 :: ⟨g, c, t⟩ :: L) R w' → wpList P ops Q rest (a.put o.dst undef) w') : wpList P ops Q (o :: rest) a w :=
  wpList_wanted hw fun _ hK => wSetS2 hS T ho hx ho1 hy hn h1 fun w' hs => hK _ _ (h w' hs)
theorem wSetfS2 {K : Act → World → Prop} {ty : TypeId} {n : Nat} {g off : Nat} {old : Array Value} {t : TypeId} {x0 x1 : Bk} (hS : St F w0 (x0 :: x1 :: ⟨g, old, t⟩ :: L) R w) (hs : (P.info? ty).map (·.size) = some n) {x y : Operand} (ho : o.op = .store ty x y) (hx : a.eval x = .pointer (some ⟨g, off, none⟩)) (hfit : off + n ≤ old.size) {v : Value} (hy : a.eval y = v) (hn : v.cells.size = n) (h1 : ∀ u ∈ v.cells.toList, u.oneCell' = true)
    {c : Array Value} (hc : (old.toList.take off ++ v.cells.toList ++ old.toList.drop (off + n)).toArray = c) (h : ∀ w', St F w0 (x0 :: x1 :: ⟨g, c, t⟩ :: L) R w' → K (a.put o.dst undef) w') : o.wp P a w K Q :=
  wp_put_blk hs ho (hS.blk ⟨g, old, t⟩ (by simp)) hn hfit h1 hx hy fun w' hg k => h w' (St.set (L1 := [x0, x1]) (b := ⟨g, old, t⟩) hS (by rw [hg, hc]) k)
theorem setfS2 {ty : TypeId} {n : Nat} {g off : Nat} {old : Array Value} {t : TypeId} {x0 x1 : Bk} (hS : St F w0 (x0 :: x1 :: ⟨g, old, t⟩ :: L) R w) (hs : (P.info? ty).map (·.size) = some n) (hw : Region.wanted o (yielded ops a.tmps) = true) {x y : Operand} (ho : o.op = .store ty x y) (hx : a.eval x = .pointer (some ⟨g, off, none⟩)) (hfit : off + n ≤ old.size) {v : Value} (hy : a.eval y = v) (hn : v.cells.size = n) (h1 : ∀ u ∈ v.cells.toList, u.oneCell' = true)
    {c : Array Value} (hc : (old.toList.take off ++ v.cells.toList ++ old.toList.drop (off + n)).toArray = c) (h : ∀ w', St F w0 (x0 :: x1 :: ⟨g, c, t⟩ :: L) R w' → wpList P ops Q rest (a.put o.dst undef) w') : wpList P ops Q (o :: rest) a w :=
  wpList_wanted hw fun _ hK => wp_put_blk hs ho (hS.blk ⟨g, old, t⟩ (by simp)) hn hfit h1 hx hy fun w' hg k => hK _ _ (h w' (St.set (L1 := [x0, x1]) (b := ⟨g, old, t⟩) hS (by rw [hg, hc]) k))
theorem getS3 {ty : TypeId} {n : Nat} {g : Nat} {c : Array Value} {t : TypeId} {x0 x1 x2 : Bk} (hS : St F w0 (x0 :: x1 :: x2 :: ⟨g, c, t⟩ :: L) R w) (T : AgT P ty n) (hw : Region.wanted o (yielded ops a.tmps) = true) {x : Operand} (ho : o.op = .load ty x) (hx : a.eval x = .pointer (some ⟨g, 0, none⟩)) (hn : c.size = n)
    (h : wpList P ops Q rest (a.put o.dst (.agg c)) w) : wpList P ops Q (o :: rest) a w :=
  wpList_wanted hw fun _ hK => wp_get_blk T ho (hS.blk ⟨g, c, t⟩ (by simp)) (mid := c.toList) (by rw [List.drop_zero, List.take_of_length_le (by simp [hn])]) (by simpa using hn) hx (hK _ _ h)
theorem getfS3 {ty : TypeId} {n : Nat} {g off : Nat} {c : Array Value} {t : TypeId} {x0 x1 x2 : Bk} (hS : St F w0 (x0 :: x1 :: x2 :: ⟨g, c, t⟩ :: L) R w) (T : AgT P ty n) (hw : Region.wanted o (yielded ops a.tmps) = true) {x : Operand} (ho : o.op = .load ty x) (hx : a.eval x = .pointer (some ⟨g, off, none⟩)) {mid : List Value} (hm : (c.toList.drop off).take n = mid) (hl : mid.length = n)
    (h : wpList P ops Q rest (a.put o.dst (.agg mid.toArray)) w) : wpList P ops Q (o :: rest) a w :=
  wpList_wanted hw fun _ hK => wp_get_blk T ho (hS.blk ⟨g, c, t⟩ (by simp)) hm hl hx (hK _ _ h)
theorem cellS3 {ty : TypeId} {g off : Nat} {c : Array Value} {t : TypeId} {x0 x1 x2 : Bk} (hS : St F w0 (x0 :: x1 :: x2 :: ⟨g, c, t⟩ :: L) R w) (T : ScT P ty) (hw : Region.wanted o (yielded ops a.tmps) = true) {x : Operand} (ho : o.op = .load ty x) (hx : a.eval x = .pointer (some ⟨g, off, none⟩)) {v : Value} (hk : c[off]? = some v)
    (h : wpList P ops Q rest (a.put o.dst v) w) : wpList P ops Q (o :: rest) a w :=
  wpList_wanted hw fun _ hK => wp_cell_blk T ho (hS.blk ⟨g, c, t⟩ (by simp)) hk hx (hK _ _ h)
theorem wSetS3 {K : Act → World → Prop} {ty : TypeId} {n : Nat} {g : Nat} {old : Array Value} {t : TypeId} {x0 x1 x2 : Bk} (hS : St F w0 (x0 :: x1 :: x2 :: ⟨g, old, t⟩ :: L) R w) (T : AgT P ty n) {x y : Operand} (ho : o.op = .store ty x y) (hx : a.eval x = .pointer (some ⟨g, 0, none⟩)) (ho1 : old.size = n) {c : Array Value} (hy : a.eval y = .agg c) (hn : c.size = n) (h1 : ∀ v ∈ c.toList, v.oneCell' = true)
    (h : ∀ w', St F w0 (x0 :: x1 :: x2 :: ⟨g, c, t⟩ :: L) R w' → K (a.put o.dst undef) w') : o.wp P a w K Q :=
  wp_put_blk T.s ho (hS.blk ⟨g, old, t⟩ (by simp)) (v := .agg c) hn (off := 0) (by show 0 + n ≤ old.size; omega) h1 hx hy fun w' hg k => h w' (St.set (L1 := [x0, x1, x2]) (b := ⟨g, old, t⟩) hS (by
    rw [hg]; simp only [List.take_zero, List.nil_append, Value.cells, Nat.zero_add]; rw [List.drop_eq_nil_of_le (by simp; omega)]; simp) k)
theorem setS3 {ty : TypeId} {n : Nat} {g : Nat} {old : Array Value} {t : TypeId} {x0 x1 x2 : Bk} (hS : St F w0 (x0 :: x1 :: x2 :: ⟨g, old, t⟩ :: L) R w) (T : AgT P ty n) (hw : Region.wanted o (yielded ops a.tmps) = true) {x y : Operand} (ho : o.op = .store ty x y) (hx : a.eval x = .pointer (some ⟨g, 0, none⟩)) (ho1 : old.size = n) {c : Array Value} (hy : a.eval y = .agg c) (hn : c.size = n) (h1 : ∀ v ∈ c.toList, v.oneCell' = true)
    (h : ∀ w', St F w0 (x0 :: x1 :: x2 :: ⟨g, c, t⟩ :: L) R w' → wpList P ops Q rest (a.put o.dst undef) w') : wpList P ops Q (o :: rest) a w :=
  wpList_wanted hw fun _ hK => wSetS3 hS T ho hx ho1 hy hn h1 fun w' hs => hK _ _ (h w' hs)
theorem wSetfS3 {K : Act → World → Prop} {ty : TypeId} {n : Nat} {g off : Nat} {old : Array Value} {t : TypeId} {x0 x1 x2 : Bk} (hS : St F w0 (x0 :: x1 :: x2 :: ⟨g, old, t⟩ :: L) R w) (hs : (P.info? ty).map (·.size) = some n) {x y : Operand} (ho : o.op = .store ty x y) (hx : a.eval x = .pointer (some ⟨g, off, none⟩)) (hfit : off + n ≤ old.size) {v : Value} (hy : a.eval y = v) (hn : v.cells.size = n) (h1 : ∀ u ∈ v.cells.toList, u.oneCell' = true)
    {c : Array Value} (hc : (old.toList.take off ++ v.cells.toList ++ old.toList.drop (off + n)).toArray = c) (h : ∀ w', St F w0 (x0 :: x1 :: x2 :: ⟨g, c, t⟩ :: L) R w' → K (a.put o.dst undef) w') : o.wp P a w K Q :=
  wp_put_blk hs ho (hS.blk ⟨g, old, t⟩ (by simp)) hn hfit h1 hx hy fun w' hg k => h w' (St.set (L1 := [x0, x1, x2]) (b := ⟨g, old, t⟩) hS (by rw [hg, hc]) k)
theorem setfS3 {ty : TypeId} {n : Nat} {g off : Nat} {old : Array Value} {t : TypeId} {x0 x1 x2 : Bk} (hS : St F w0 (x0 :: x1 :: x2 :: ⟨g, old, t⟩ :: L) R w) (hs : (P.info? ty).map (·.size) = some n) (hw : Region.wanted o (yielded ops a.tmps) = true) {x y : Operand} (ho : o.op = .store ty x y) (hx : a.eval x = .pointer (some ⟨g, off, none⟩)) (hfit : off + n ≤ old.size) {v : Value} (hy : a.eval y = v) (hn : v.cells.size = n) (h1 : ∀ u ∈ v.cells.toList, u.oneCell' = true)
    {c : Array Value} (hc : (old.toList.take off ++ v.cells.toList ++ old.toList.drop (off + n)).toArray = c) (h : ∀ w', St F w0 (x0 :: x1 :: x2 :: ⟨g, c, t⟩ :: L) R w' → wpList P ops Q rest (a.put o.dst undef) w') : wpList P ops Q (o :: rest) a w :=
  wpList_wanted hw fun _ hK => wp_put_blk hs ho (hS.blk ⟨g, old, t⟩ (by simp)) hn hfit h1 hx hy fun w' hg k => hK _ _ (h w' (St.set (L1 := [x0, x1, x2]) (b := ⟨g, old, t⟩) hS (by rw [hg, hc]) k))
theorem getS4 {ty : TypeId} {n : Nat} {g : Nat} {c : Array Value} {t : TypeId} {x0 x1 x2 x3 : Bk} (hS : St F w0 (x0 :: x1 :: x2 :: x3 :: ⟨g, c, t⟩ :: L) R w) (T : AgT P ty n) (hw : Region.wanted o (yielded ops a.tmps) = true) {x : Operand} (ho : o.op = .load ty x) (hx : a.eval x = .pointer (some ⟨g, 0, none⟩)) (hn : c.size = n)
    (h : wpList P ops Q rest (a.put o.dst (.agg c)) w) : wpList P ops Q (o :: rest) a w :=
  wpList_wanted hw fun _ hK => wp_get_blk T ho (hS.blk ⟨g, c, t⟩ (by simp)) (mid := c.toList) (by rw [List.drop_zero, List.take_of_length_le (by simp [hn])]) (by simpa using hn) hx (hK _ _ h)
theorem getfS4 {ty : TypeId} {n : Nat} {g off : Nat} {c : Array Value} {t : TypeId} {x0 x1 x2 x3 : Bk} (hS : St F w0 (x0 :: x1 :: x2 :: x3 :: ⟨g, c, t⟩ :: L) R w) (T : AgT P ty n) (hw : Region.wanted o (yielded ops a.tmps) = true) {x : Operand} (ho : o.op = .load ty x) (hx : a.eval x = .pointer (some ⟨g, off, none⟩)) {mid : List Value} (hm : (c.toList.drop off).take n = mid) (hl : mid.length = n)
    (h : wpList P ops Q rest (a.put o.dst (.agg mid.toArray)) w) : wpList P ops Q (o :: rest) a w :=
  wpList_wanted hw fun _ hK => wp_get_blk T ho (hS.blk ⟨g, c, t⟩ (by simp)) hm hl hx (hK _ _ h)
theorem cellS4 {ty : TypeId} {g off : Nat} {c : Array Value} {t : TypeId} {x0 x1 x2 x3 : Bk} (hS : St F w0 (x0 :: x1 :: x2 :: x3 :: ⟨g, c, t⟩ :: L) R w) (T : ScT P ty) (hw : Region.wanted o (yielded ops a.tmps) = true) {x : Operand} (ho : o.op = .load ty x) (hx : a.eval x = .pointer (some ⟨g, off, none⟩)) {v : Value} (hk : c[off]? = some v)
    (h : wpList P ops Q rest (a.put o.dst v) w) : wpList P ops Q (o :: rest) a w :=
  wpList_wanted hw fun _ hK => wp_cell_blk T ho (hS.blk ⟨g, c, t⟩ (by simp)) hk hx (hK _ _ h)
theorem wSetS4 {K : Act → World → Prop} {ty : TypeId} {n : Nat} {g : Nat} {old : Array Value} {t : TypeId} {x0 x1 x2 x3 : Bk} (hS : St F w0 (x0 :: x1 :: x2 :: x3 :: ⟨g, old, t⟩ :: L) R w) (T : AgT P ty n) {x y : Operand} (ho : o.op = .store ty x y) (hx : a.eval x = .pointer (some ⟨g, 0, none⟩)) (ho1 : old.size = n) {c : Array Value} (hy : a.eval y = .agg c) (hn : c.size = n) (h1 : ∀ v ∈ c.toList, v.oneCell' = true)
    (h : ∀ w', St F w0 (x0 :: x1 :: x2 :: x3 :: ⟨g, c, t⟩ :: L) R w' → K (a.put o.dst undef) w') : o.wp P a w K Q :=
  wp_put_blk T.s ho (hS.blk ⟨g, old, t⟩ (by simp)) (v := .agg c) hn (off := 0) (by show 0 + n ≤ old.size; omega) h1 hx hy fun w' hg k => h w' (St.set (L1 := [x0, x1, x2, x3]) (b := ⟨g, old, t⟩) hS (by
    rw [hg]; simp only [List.take_zero, List.nil_append, Value.cells, Nat.zero_add]; rw [List.drop_eq_nil_of_le (by simp; omega)]; simp) k)
theorem setS4 {ty : TypeId} {n : Nat} {g : Nat} {old : Array Value} {t : TypeId} {x0 x1 x2 x3 : Bk} (hS : St F w0 (x0 :: x1 :: x2 :: x3 :: ⟨g, old, t⟩ :: L) R w) (T : AgT P ty n) (hw : Region.wanted o (yielded ops a.tmps) = true) {x y : Operand} (ho : o.op = .store ty x y) (hx : a.eval x = .pointer (some ⟨g, 0, none⟩)) (ho1 : old.size = n) {c : Array Value} (hy : a.eval y = .agg c) (hn : c.size = n) (h1 : ∀ v ∈ c.toList, v.oneCell' = true)
    (h : ∀ w', St F w0 (x0 :: x1 :: x2 :: x3 :: ⟨g, c, t⟩ :: L) R w' → wpList P ops Q rest (a.put o.dst undef) w') : wpList P ops Q (o :: rest) a w :=
  wpList_wanted hw fun _ hK => wSetS4 hS T ho hx ho1 hy hn h1 fun w' hs => hK _ _ (h w' hs)
theorem wSetfS4 {K : Act → World → Prop} {ty : TypeId} {n : Nat} {g off : Nat} {old : Array Value} {t : TypeId} {x0 x1 x2 x3 : Bk} (hS : St F w0 (x0 :: x1 :: x2 :: x3 :: ⟨g, old, t⟩ :: L) R w) (hs : (P.info? ty).map (·.size) = some n) {x y : Operand} (ho : o.op = .store ty x y) (hx : a.eval x = .pointer (some ⟨g, off, none⟩)) (hfit : off + n ≤ old.size) {v : Value} (hy : a.eval y = v) (hn : v.cells.size = n) (h1 : ∀ u ∈ v.cells.toList, u.oneCell' = true)
    {c : Array Value} (hc : (old.toList.take off ++ v.cells.toList ++ old.toList.drop (off + n)).toArray = c) (h : ∀ w', St F w0 (x0 :: x1 :: x2 :: x3 :: ⟨g, c, t⟩ :: L) R w' → K (a.put o.dst undef) w') : o.wp P a w K Q :=
  wp_put_blk hs ho (hS.blk ⟨g, old, t⟩ (by simp)) hn hfit h1 hx hy fun w' hg k => h w' (St.set (L1 := [x0, x1, x2, x3]) (b := ⟨g, old, t⟩) hS (by rw [hg, hc]) k)
theorem setfS4 {ty : TypeId} {n : Nat} {g off : Nat} {old : Array Value} {t : TypeId} {x0 x1 x2 x3 : Bk} (hS : St F w0 (x0 :: x1 :: x2 :: x3 :: ⟨g, old, t⟩ :: L) R w) (hs : (P.info? ty).map (·.size) = some n) (hw : Region.wanted o (yielded ops a.tmps) = true) {x y : Operand} (ho : o.op = .store ty x y) (hx : a.eval x = .pointer (some ⟨g, off, none⟩)) (hfit : off + n ≤ old.size) {v : Value} (hy : a.eval y = v) (hn : v.cells.size = n) (h1 : ∀ u ∈ v.cells.toList, u.oneCell' = true)
    {c : Array Value} (hc : (old.toList.take off ++ v.cells.toList ++ old.toList.drop (off + n)).toArray = c) (h : ∀ w', St F w0 (x0 :: x1 :: x2 :: x3 :: ⟨g, c, t⟩ :: L) R w' → wpList P ops Q rest (a.put o.dst undef) w') : wpList P ops Q (o :: rest) a w :=
  wpList_wanted hw fun _ hK => wp_put_blk hs ho (hS.blk ⟨g, old, t⟩ (by simp)) hn hfit h1 hx hy fun w' hg k => hK _ _ (h w' (St.set (L1 := [x0, x1, x2, x3]) (b := ⟨g, old, t⟩) hS (by rw [hg, hc]) k))
theorem getS5 {ty : TypeId} {n : Nat} {g : Nat} {c : Array Value} {t : TypeId} {x0 x1 x2 x3 x4 : Bk} (hS : St F w0 (x0 :: x1 :: x2 :: x3 :: x4 :: ⟨g, c, t⟩ :: L) R w) (T : AgT P ty n) (hw : Region.wanted o (yielded ops a.tmps) = true) {x : Operand} (ho : o.op = .load ty x) (hx : a.eval x = .pointer (some ⟨g, 0, none⟩)) (hn : c.size = n)
    (h : wpList P ops Q rest (a.put o.dst (.agg c)) w) : wpList P ops Q (o :: rest) a w :=
  wpList_wanted hw fun _ hK => wp_get_blk T ho (hS.blk ⟨g, c, t⟩ (by simp)) (mid := c.toList) (by rw [List.drop_zero, List.take_of_length_le (by simp [hn])]) (by simpa using hn) hx (hK _ _ h)
theorem getfS5 {ty : TypeId} {n : Nat} {g off : Nat} {c : Array Value} {t : TypeId} {x0 x1 x2 x3 x4 : Bk} (hS : St F w0 (x0 :: x1 :: x2 :: x3 :: x4 :: ⟨g, c, t⟩ :: L) R w) (T : AgT P ty n) (hw : Region.wanted o (yielded ops a.tmps) = true) {x : Operand} (ho : o.op = .load ty x) (hx : a.eval x = .pointer (some ⟨g, off, none⟩)) {mid : List Value} (hm : (c.toList.drop off).take n = mid) (hl : mid.length = n)
    (h : wpList P ops Q rest (a.put o.dst (.agg mid.toArray)) w) : wpList P ops Q (o :: rest) a w :=
  wpList_wanted hw fun _ hK => wp_get_blk T ho (hS.blk ⟨g, c, t⟩ (by simp)) hm hl hx (hK _ _ h)
theorem cellS5 {ty : TypeId} {g off : Nat} {c : Array Value} {t : TypeId} {x0 x1 x2 x3 x4 : Bk} (hS : St F w0 (x0 :: x1 :: x2 :: x3 :: x4 :: ⟨g, c, t⟩ :: L) R w) (T : ScT P ty) (hw : Region.wanted o (yielded ops a.tmps) = true) {x : Operand} (ho : o.op = .load ty x) (hx : a.eval x = .pointer (some ⟨g, off, none⟩)) {v : Value} (hk : c[off]? = some v)
    (h : wpList P ops Q rest (a.put o.dst v) w) : wpList P ops Q (o :: rest) a w :=
  wpList_wanted hw fun _ hK => wp_cell_blk T ho (hS.blk ⟨g, c, t⟩ (by simp)) hk hx (hK _ _ h)
theorem wSetS5 {K : Act → World → Prop} {ty : TypeId} {n : Nat} {g : Nat} {old : Array Value} {t : TypeId} {x0 x1 x2 x3 x4 : Bk} (hS : St F w0 (x0 :: x1 :: x2 :: x3 :: x4 :: ⟨g, old, t⟩ :: L) R w) (T : AgT P ty n) {x y : Operand} (ho : o.op = .store ty x y) (hx : a.eval x = .pointer (some ⟨g, 0, none⟩)) (ho1 : old.size = n) {c : Array Value} (hy : a.eval y = .agg c) (hn : c.size = n) (h1 : ∀ v ∈ c.toList, v.oneCell' = true)
    (h : ∀ w', St F w0 (x0 :: x1 :: x2 :: x3 :: x4 :: ⟨g, c, t⟩ :: L) R w' → K (a.put o.dst undef) w') : o.wp P a w K Q :=
  wp_put_blk T.s ho (hS.blk ⟨g, old, t⟩ (by simp)) (v := .agg c) hn (off := 0) (by show 0 + n ≤ old.size; omega) h1 hx hy fun w' hg k => h w' (St.set (L1 := [x0, x1, x2, x3, x4]) (b := ⟨g, old, t⟩) hS (by
    rw [hg]; simp only [List.take_zero, List.nil_append, Value.cells, Nat.zero_add]; rw [List.drop_eq_nil_of_le (by simp; omega)]; simp) k)
theorem setS5 {ty : TypeId} {n : Nat} {g : Nat} {old : Array Value} {t : TypeId} {x0 x1 x2 x3 x4 : Bk} (hS : St F w0 (x0 :: x1 :: x2 :: x3 :: x4 :: ⟨g, old, t⟩ :: L) R w) (T : AgT P ty n) (hw : Region.wanted o (yielded ops a.tmps) = true) {x y : Operand} (ho : o.op = .store ty x y) (hx : a.eval x = .pointer (some ⟨g, 0, none⟩)) (ho1 : old.size = n) {c : Array Value} (hy : a.eval y = .agg c) (hn : c.size = n) (h1 : ∀ v ∈ c.toList, v.oneCell' = true)
    (h : ∀ w', St F w0 (x0 :: x1 :: x2 :: x3 :: x4 :: ⟨g, c, t⟩ :: L) R w' → wpList P ops Q rest (a.put o.dst undef) w') : wpList P ops Q (o :: rest) a w :=
  wpList_wanted hw fun _ hK => wSetS5 hS T ho hx ho1 hy hn h1 fun w' hs => hK _ _ (h w' hs)
theorem wSetfS5 {K : Act → World → Prop} {ty : TypeId} {n : Nat} {g off : Nat} {old : Array Value} {t : TypeId} {x0 x1 x2 x3 x4 : Bk} (hS : St F w0 (x0 :: x1 :: x2 :: x3 :: x4 :: ⟨g, old, t⟩ :: L) R w) (hs : (P.info? ty).map (·.size) = some n) {x y : Operand} (ho : o.op = .store ty x y) (hx : a.eval x = .pointer (some ⟨g, off, none⟩)) (hfit : off + n ≤ old.size) {v : Value} (hy : a.eval y = v) (hn : v.cells.size = n) (h1 : ∀ u ∈ v.cells.toList, u.oneCell' = true)
    {c : Array Value} (hc : (old.toList.take off ++ v.cells.toList ++ old.toList.drop (off + n)).toArray = c) (h : ∀ w', St F w0 (x0 :: x1 :: x2 :: x3 :: x4 :: ⟨g, c, t⟩ :: L) R w' → K (a.put o.dst undef) w') : o.wp P a w K Q :=
  wp_put_blk hs ho (hS.blk ⟨g, old, t⟩ (by simp)) hn hfit h1 hx hy fun w' hg k => h w' (St.set (L1 := [x0, x1, x2, x3, x4]) (b := ⟨g, old, t⟩) hS (by rw [hg, hc]) k)
theorem setfS5 {ty : TypeId} {n : Nat} {g off : Nat} {old : Array Value} {t : TypeId} {x0 x1 x2 x3 x4 : Bk} (hS : St F w0 (x0 :: x1 :: x2 :: x3 :: x4 :: ⟨g, old, t⟩ :: L) R w) (hs : (P.info? ty).map (·.size) = some n) (hw : Region.wanted o (yielded ops a.tmps) = true) {x y : Operand} (ho : o.op = .store ty x y) (hx : a.eval x = .pointer (some ⟨g, off, none⟩)) (hfit : off + n ≤ old.size) {v : Value} (hy : a.eval y = v) (hn : v.cells.size = n) (h1 : ∀ u ∈ v.cells.toList, u.oneCell' = true)
    {c : Array Value} (hc : (old.toList.take off ++ v.cells.toList ++ old.toList.drop (off + n)).toArray = c) (h : ∀ w', St F w0 (x0 :: x1 :: x2 :: x3 :: x4 :: ⟨g, c, t⟩ :: L) R w' → wpList P ops Q rest (a.put o.dst undef) w') : wpList P ops Q (o :: rest) a w :=
  wpList_wanted hw fun _ hK => wp_put_blk hs ho (hS.blk ⟨g, old, t⟩ (by simp)) hn hfit h1 hx hy fun w' hg k => hK _ _ (h w' (St.set (L1 := [x0, x1, x2, x3, x4]) (b := ⟨g, old, t⟩) hS (by rw [hg, hc]) k))
theorem getS6 {ty : TypeId} {n : Nat} {g : Nat} {c : Array Value} {t : TypeId} {x0 x1 x2 x3 x4 x5 : Bk} (hS : St F w0 (x0 :: x1 :: x2 :: x3 :: x4 :: x5 :: ⟨g, c, t⟩ :: L) R w) (T : AgT P ty n) (hw : Region.wanted o (yielded ops a.tmps) = true) {x : Operand} (ho : o.op = .load ty x) (hx : a.eval x = .pointer (some ⟨g, 0, none⟩)) (hn : c.size = n)
    (h : wpList P ops Q rest (a.put o.dst (.agg c)) w) : wpList P ops Q (o :: rest) a w :=
  wpList_wanted hw fun _ hK => wp_get_blk T ho (hS.blk ⟨g, c, t⟩ (by simp)) (mid := c.toList) (by rw [List.drop_zero, List.take_of_length_le (by simp [hn])]) (by simpa using hn) hx (hK _ _ h)
theorem getfS6 {ty : TypeId} {n : Nat} {g off : Nat} {c : Array Value} {t : TypeId} {x0 x1 x2 x3 x4 x5 : Bk} (hS : St F w0 (x0 :: x1 :: x2 :: x3 :: x4 :: x5 :: ⟨g, c, t⟩ :: L) R w) (T : AgT P ty n) (hw : Region.wanted o (yielded ops a.tmps) = true) {x : Operand} (ho : o.op = .load ty x) (hx : a.eval x = .pointer (some ⟨g, off, none⟩)) {mid : List Value} (hm : (c.toList.drop off).take n = mid) (hl : mid.length = n)
    (h : wpList P ops Q rest (a.put o.dst (.agg mid.toArray)) w) : wpList P ops Q (o :: rest) a w :=
  wpList_wanted hw fun _ hK => wp_get_blk T ho (hS.blk ⟨g, c, t⟩ (by simp)) hm hl hx (hK _ _ h)
theorem cellS6 {ty : TypeId} {g off : Nat} {c : Array Value} {t : TypeId} {x0 x1 x2 x3 x4 x5 : Bk} (hS : St F w0 (x0 :: x1 :: x2 :: x3 :: x4 :: x5 :: ⟨g, c, t⟩ :: L) R w) (T : ScT P ty) (hw : Region.wanted o (yielded ops a.tmps) = true) {x : Operand} (ho : o.op = .load ty x) (hx : a.eval x = .pointer (some ⟨g, off, none⟩)) {v : Value} (hk : c[off]? = some v)
    (h : wpList P ops Q rest (a.put o.dst v) w) : wpList P ops Q (o :: rest) a w :=
  wpList_wanted hw fun _ hK => wp_cell_blk T ho (hS.blk ⟨g, c, t⟩ (by simp)) hk hx (hK _ _ h)
theorem wSetS6 {K : Act → World → Prop} {ty : TypeId} {n : Nat} {g : Nat} {old : Array Value} {t : TypeId} {x0 x1 x2 x3 x4 x5 : Bk} (hS : St F w0 (x0 :: x1 :: x2 :: x3 :: x4 :: x5 :: ⟨g, old, t⟩ :: L) R w) (T : AgT P ty n) {x y : Operand} (ho : o.op = .store ty x y) (hx : a.eval x = .pointer (some ⟨g, 0, none⟩)) (ho1 : old.size = n) {c : Array Value} (hy : a.eval y = .agg c) (hn : c.size = n) (h1 : ∀ v ∈ c.toList, v.oneCell' = true)
    (h : ∀ w', St F w0 (x0 :: x1 :: x2 :: x3 :: x4 :: x5 :: ⟨g, c, t⟩ :: L) R w' → K (a.put o.dst undef) w') : o.wp P a w K Q :=
  wp_put_blk T.s ho (hS.blk ⟨g, old, t⟩ (by simp)) (v := .agg c) hn (off := 0) (by show 0 + n ≤ old.size; omega) h1 hx hy fun w' hg k => h w' (St.set (L1 := [x0, x1, x2, x3, x4, x5]) (b := ⟨g, old, t⟩) hS (by
    rw [hg]; simp only [List.take_zero, List.nil_append, Value.cells, Nat.zero_add]; rw [List.drop_eq_nil_of_le (by simp; omega)]; simp) k)
theorem setS6 {ty : TypeId} {n : Nat} {g : Nat} {old : Array Value} {t : TypeId} {x0 x1 x2 x3 x4 x5 : Bk} (hS : St F w0 (x0 :: x1 :: x2 :: x3 :: x4 :: x5 :: ⟨g, old, t⟩ :: L) R w) (T : AgT P ty n) (hw : Region.wanted o (yielded ops a.tmps) = true) {x y : Operand} (ho : o.op = .store ty x y) (hx : a.eval x = .pointer (some ⟨g, 0, none⟩)) (ho1 : old.size = n) {c : Array Value} (hy : a.eval y = .agg c) (hn : c.size = n) (h1 : ∀ v ∈ c.toList, v.oneCell' = true)
    (h : ∀ w', St F w0 (x0 :: x1 :: x2 :: x3 :: x4 :: x5 :: ⟨g, c, t⟩ :: L) R w' → wpList P ops Q rest (a.put o.dst undef) w') : wpList P ops Q (o :: rest) a w :=
  wpList_wanted hw fun _ hK => wSetS6 hS T ho hx ho1 hy hn h1 fun w' hs => hK _ _ (h w' hs)
theorem wSetfS6 {K : Act → World → Prop} {ty : TypeId} {n : Nat} {g off : Nat} {old : Array Value} {t : TypeId} {x0 x1 x2 x3 x4 x5 : Bk} (hS : St F w0 (x0 :: x1 :: x2 :: x3 :: x4 :: x5 :: ⟨g, old, t⟩ :: L) R w) (hs : (P.info? ty).map (·.size) = some n) {x y : Operand} (ho : o.op = .store ty x y) (hx : a.eval x = .pointer (some ⟨g, off, none⟩)) (hfit : off + n ≤ old.size) {v : Value} (hy : a.eval y = v) (hn : v.cells.size = n) (h1 : ∀ u ∈ v.cells.toList, u.oneCell' = true)
    {c : Array Value} (hc : (old.toList.take off ++ v.cells.toList ++ old.toList.drop (off + n)).toArray = c) (h : ∀ w', St F w0 (x0 :: x1 :: x2 :: x3 :: x4 :: x5 :: ⟨g, c, t⟩ :: L) R w' → K (a.put o.dst undef) w') : o.wp P a w K Q :=
  wp_put_blk hs ho (hS.blk ⟨g, old, t⟩ (by simp)) hn hfit h1 hx hy fun w' hg k => h w' (St.set (L1 := [x0, x1, x2, x3, x4, x5]) (b := ⟨g, old, t⟩) hS (by rw [hg, hc]) k)
theorem setfS6 {ty : TypeId} {n : Nat} {g off : Nat} {old : Array Value} {t : TypeId} {x0 x1 x2 x3 x4 x5 : Bk} (hS : St F w0 (x0 :: x1 :: x2 :: x3 :: x4 :: x5 :: ⟨g, old, t⟩ :: L) R w) (hs : (P.info? ty).map (·.size) = some n) (hw : Region.wanted o (yielded ops a.tmps) = true) {x y : Operand} (ho : o.op = .store ty x y) (hx : a.eval x = .pointer (some ⟨g, off, none⟩)) (hfit : off + n ≤ old.size) {v : Value} (hy : a.eval y = v) (hn : v.cells.size = n) (h1 : ∀ u ∈ v.cells.toList, u.oneCell' = true)
    {c : Array Value} (hc : (old.toList.take off ++ v.cells.toList ++ old.toList.drop (off + n)).toArray = c) (h : ∀ w', St F w0 (x0 :: x1 :: x2 :: x3 :: x4 :: x5 :: ⟨g, c, t⟩ :: L) R w' → wpList P ops Q rest (a.put o.dst undef) w') : wpList P ops Q (o :: rest) a w :=
  wpList_wanted hw fun _ hK => wp_put_blk hs ho (hS.blk ⟨g, old, t⟩ (by simp)) hn hfit h1 hx hy fun w' hg k => hK _ _ (h w' (St.set (L1 := [x0, x1, x2, x3, x4, x5]) (b := ⟨g, old, t⟩) hS (by rw [hg, hc]) k))
theorem getS7 {ty : TypeId} {n : Nat} {g : Nat} {c : Array Value} {t : TypeId} {x0 x1 x2 x3 x4 x5 x6 : Bk} (hS : St F w0 (x0 :: x1 :: x2 :: x3 :: x4 :: x5 :: x6 :: ⟨g, c, t⟩ :: L) R w) (T : AgT P ty n) (hw : Region.wanted o (yielded ops a.tmps) = true) {x : Operand} (ho : o.op = .load ty x) (hx : a.eval x = .pointer (some ⟨g, 0, none⟩)) (hn : c.size = n)
    (h : wpList P ops Q rest (a.put o.dst (.agg c)) w) : wpList P ops Q (o :: rest) a w :=
  wpList_wanted hw fun _ hK => wp_get_blk T ho (hS.blk ⟨g, c, t⟩ (by simp)) (mid := c.toList) (by rw [List.drop_zero, List.take_of_length_le (by simp [hn])]) (by simpa using hn) hx (hK _ _ h)
theorem getfS7 {ty : TypeId} {n : Nat} {g off : Nat} {c : Array Value} {t : TypeId} {x0 x1 x2 x3 x4 x5 x6 : Bk} (hS : St F w0 (x0 :: x1 :: x2 :: x3 :: x4 :: x5 :: x6 :: ⟨g, c, t⟩ :: L) R w) (T : AgT P ty n) (hw : Region.wanted o (yielded ops a.tmps) = true) {x : Operand} (ho : o.op = .load ty x) (hx : a.eval x = .pointer (some ⟨g, off, none⟩)) {mid : List Value} (hm : (c.toList.drop off).take n = mid) (hl : mid.length = n)
    (h : wpList P ops Q rest (a.put o.dst (.agg mid.toArray)) w) : wpList P ops Q (o :: rest) a w :=
  wpList_wanted hw fun _ hK => wp_get_blk T ho (hS.blk ⟨g, c, t⟩ (by simp)) hm hl hx (hK _ _ h)
theorem cellS7 {ty : TypeId} {g off : Nat} {c : Array Value} {t : TypeId} {x0 x1 x2 x3 x4 x5 x6 : Bk} (hS : St F w0 (x0 :: x1 :: x2 :: x3 :: x4 :: x5 :: x6 :: ⟨g, c, t⟩ :: L) R w) (T : ScT P ty) (hw : Region.wanted o (yielded ops a.tmps) = true) {x : Operand} (ho : o.op = .load ty x) (hx : a.eval x = .pointer (some ⟨g, off, none⟩)) {v : Value} (hk : c[off]? = some v)
    (h : wpList P ops Q rest (a.put o.dst v) w) : wpList P ops Q (o :: rest) a w :=
  wpList_wanted hw fun _ hK => wp_cell_blk T ho (hS.blk ⟨g, c, t⟩ (by simp)) hk hx (hK _ _ h)
theorem wSetS7 {K : Act → World → Prop} {ty : TypeId} {n : Nat} {g : Nat} {old : Array Value} {t : TypeId} {x0 x1 x2 x3 x4 x5 x6 : Bk} (hS : St F w0 (x0 :: x1 :: x2 :: x3 :: x4 :: x5 :: x6 :: ⟨g, old, t⟩ :: L) R w) (T : AgT P ty n) {x y : Operand} (ho : o.op = .store ty x y) (hx : a.eval x = .pointer (some ⟨g, 0, none⟩)) (ho1 : old.size = n) {c : Array Value} (hy : a.eval y = .agg c) (hn : c.size = n) (h1 : ∀ v ∈ c.toList, v.oneCell' = true)
    (h : ∀ w', St F w0 (x0 :: x1 :: x2 :: x3 :: x4 :: x5 :: x6 :: ⟨g, c, t⟩ :: L) R w' → K (a.put o.dst undef) w') : o.wp P a w K Q :=
  wp_put_blk T.s ho (hS.blk ⟨g, old, t⟩ (by simp)) (v := .agg c) hn (off := 0) (by show 0 + n ≤ old.size; omega) h1 hx hy fun w' hg k => h w' (St.set (L1 := [x0, x1, x2, x3, x4, x5, x6]) (b := ⟨g, old, t⟩) hS (by
    rw [hg]; simp only [List.take_zero, List.nil_append, Value.cells, Nat.zero_add]; rw [List.drop_eq_nil_of_le (by simp; omega)]; simp) k)
theorem setS7 {ty : TypeId} {n : Nat} {g : Nat} {old : Array Value} {t : TypeId} {x0 x1 x2 x3 x4 x5 x6 : Bk} (hS : St F w0 (x0 :: x1 :: x2 :: x3 :: x4 :: x5 :: x6 :: ⟨g, old, t⟩ :: L) R w) (T : AgT P ty n) (hw : Region.wanted o (yielded ops a.tmps) = true) {x y : Operand} (ho : o.op = .store ty x y) (hx : a.eval x = .pointer (some ⟨g, 0, none⟩)) (ho1 : old.size = n) {c : Array Value} (hy : a.eval y = .agg c) (hn : c.size = n) (h1 : ∀ v ∈ c.toList, v.oneCell' = true)
    (h : ∀ w', St F w0 (x0 :: x1 :: x2 :: x3 :: x4 :: x5 :: x6 :: ⟨g, c, t⟩ :: L) R w' → wpList P ops Q rest (a.put o.dst undef) w') : wpList P ops Q (o :: rest) a w :=
  wpList_wanted hw fun _ hK => wSetS7 hS T ho hx ho1 hy hn h1 fun w' hs => hK _ _ (h w' hs)
theorem wSetfS7 {K : Act → World → Prop} {ty : TypeId} {n : Nat} {g off : Nat} {old : Array Value} {t : TypeId} {x0 x1 x2 x3 x4 x5 x6 : Bk} (hS : St F w0 (x0 :: x1 :: x2 :: x3 :: x4 :: x5 :: x6 :: ⟨g, old, t⟩ :: L) R w) (hs : (P.info? ty).map (·.size) = some n) {x y : Operand} (ho : o.op = .store ty x y) (hx : a.eval x = .pointer (some ⟨g, off, none⟩)) (hfit : off + n ≤ old.size) {v : Value} (hy : a.eval y = v) (hn : v.cells.size = n) (h1 : ∀ u ∈ v.cells.toList, u.oneCell' = true)
    {c : Array Value} (hc : (old.toList.take off ++ v.cells.toList ++ old.toList.drop (off + n)).toArray = c) (h : ∀ w', St F w0 (x0 :: x1 :: x2 :: x3 :: x4 :: x5 :: x6 :: ⟨g, c, t⟩ :: L) R w' → K (a.put o.dst undef) w') : o.wp P a w K Q :=
  wp_put_blk hs ho (hS.blk ⟨g, old, t⟩ (by simp)) hn hfit h1 hx hy fun w' hg k => h w' (St.set (L1 := [x0, x1, x2, x3, x4, x5, x6]) (b := ⟨g, old, t⟩) hS (by rw [hg, hc]) k)
theorem setfS7 {ty : TypeId} {n : Nat} {g off : Nat} {old : Array Value} {t : TypeId} {x0 x1 x2 x3 x4 x5 x6 : Bk} (hS : St F w0 (x0 :: x1 :: x2 :: x3 :: x4 :: x5 :: x6 :: ⟨g, old, t⟩ :: L) R w) (hs : (P.info? ty).map (·.size) = some n) (hw : Region.wanted o (yielded ops a.tmps) = true) {x y : Operand} (ho : o.op = .store ty x y) (hx : a.eval x = .pointer (some ⟨g, off, none⟩)) (hfit : off + n ≤ old.size) {v : Value} (hy : a.eval y = v) (hn : v.cells.size = n) (h1 : ∀ u ∈ v.cells.toList, u.oneCell' = true)
    {c : Array Value} (hc : (old.toList.take off ++ v.cells.toList ++ old.toList.drop (off + n)).toArray = c) (h : ∀ w', St F w0 (x0 :: x1 :: x2 :: x3 :: x4 :: x5 :: x6 :: ⟨g, c, t⟩ :: L) R w' → wpList P ops Q rest (a.put o.dst undef) w') : wpList P ops Q (o :: rest) a w :=
  wpList_wanted hw fun _ hK => wp_put_blk hs ho (hS.blk ⟨g, old, t⟩ (by simp)) hn hfit h1 hx hy fun w' hg k => hK _ _ (h w' (St.set (L1 := [x0, x1, x2, x3, x4, x5, x6]) (b := ⟨g, old, t⟩) hS (by rw [hg, hc]) k))
theorem getS8 {ty : TypeId} {n : Nat} {g : Nat} {c : Array Value} {t : TypeId} {x0 x1 x2 x3 x4 x5 x6 x7 : Bk} (hS : St F w0 (x0 :: x1 :: x2 :: x3 :: x4 :: x5 :: x6 :: x7 :: ⟨g, c, t⟩ :: L) R w) (T : AgT P ty n) (hw : Region.wanted o (yielded ops a.tmps) = true) {x : Operand} (ho : o.op = .load ty x) (hx : a.eval x = .pointer (some ⟨g, 0, none⟩)) (hn : c.size = n)
    (h : wpList P ops Q rest (a.put o.dst (.agg c)) w) : wpList P ops Q (o :: rest) a w :=
  wpList_wanted hw fun _ hK => wp_get_blk T ho (hS.blk ⟨g, c, t⟩ (by simp)) (mid := c.toList) (by rw [List.drop_zero, List.take_of_length_le (by simp [hn])]) (by simpa using hn) hx (hK _ _ h)
theorem getfS8 {ty : TypeId} {n : Nat} {g off : Nat} {c : Array Value} {t : TypeId} {x0 x1 x2 x3 x4 x5 x6 x7 : Bk} (hS : St F w0 (x0 :: x1 :: x2 :: x3 :: x4 :: x5 :: x6 :: x7 :: ⟨g, c, t⟩ :: L) R w) (T : AgT P ty n) (hw : Region.wanted o (yielded ops a.tmps) = true) {x : Operand} (ho : o.op = .load ty x) (hx : a.eval x = .pointer (some ⟨g, off, none⟩)) {mid : List Value} (hm : (c.toList.drop off).take n = mid) (hl : mid.length = n)
    (h : wpList P ops Q rest (a.put o.dst (.agg mid.toArray)) w) : wpList P ops Q (o :: rest) a w :=
  wpList_wanted hw fun _ hK => wp_get_blk T ho (hS.blk ⟨g, c, t⟩ (by simp)) hm hl hx (hK _ _ h)
theorem cellS8 {ty : TypeId} {g off : Nat} {c : Array Value} {t : TypeId} {x0 x1 x2 x3 x4 x5 x6 x7 : Bk} (hS : St F w0 (x0 :: x1 :: x2 :: x3 :: x4 :: x5 :: x6 :: x7 :: ⟨g, c, t⟩ :: L) R w) (T : ScT P ty) (hw : Region.wanted o (yielded ops a.tmps) = true) {x : Operand} (ho : o.op = .load ty x) (hx : a.eval x = .pointer (some ⟨g, off, none⟩)) {v : Value} (hk : c[off]? = some v)
    (h : wpList P ops Q rest (a.put o.dst v) w) : wpList P ops Q (o :: rest) a w :=
  wpList_wanted hw fun _ hK => wp_cell_blk T ho (hS.blk ⟨g, c, t⟩ (by simp)) hk hx (hK _ _ h)
theorem wSetS8 {K : Act → World → Prop} {ty : TypeId} {n : Nat} {g : Nat} {old : Array Value} {t : TypeId} {x0 x1 x2 x3 x4 x5 x6 x7 : Bk} (hS : St F w0 (x0 :: x1 :: x2 :: x3 :: x4 :: x5 :: x6 :: x7 :: ⟨g, old, t⟩ :: L) R w) (T : AgT P ty n) {x y : Operand} (ho : o.op = .store ty x y) (hx : a.eval x = .pointer (some ⟨g, 0, none⟩)) (ho1 : old.size = n) {c : Array Value} (hy : a.eval y = .agg c) (hn : c.size = n) (h1 : ∀ v ∈ c.toList, v.oneCell' = true)
    (h : ∀ w', St F w0 (x0 :: x1 :: x2 :: x3 :: x4 :: x5 :: x6 :: x7 :: ⟨g, c, t⟩ :: L) R w' → K (a.put o.dst undef) w') : o.wp P a w K Q :=
  wp_put_blk T.s ho (hS.blk ⟨g, old, t⟩ (by simp)) (v := .agg c) hn (off := 0) (by show 0 + n ≤ old.size; omega) h1 hx hy fun w' hg k => h w' (St.set (L1 := [x0, x1, x2, x3, x4, x5, x6, x7]) (b := ⟨g, old, t⟩) hS (by
    rw [hg]; simp only [List.take_zero, List.nil_append, Value.cells, Nat.zero_add]; rw [List.drop_eq_nil_of_le (by simp; omega)]; simp) k)
theorem setS8 {ty : TypeId} {n : Nat} {g : Nat} {old : Array Value} {t : TypeId} {x0 x1 x2 x3 x4 x5 x6 x7 : Bk} (hS : St F w0 (x0 :: x1 :: x2 :: x3 :: x4 :: x5 :: x6 :: x7 :: ⟨g, old, t⟩ :: L) R w) (T : AgT P ty n) (hw : Region.wanted o (yielded ops a.tmps) = true) {x y : Operand} (ho : o.op = .store ty x y) (hx : a.eval x = .pointer (some ⟨g, 0, none⟩)) (ho1 : old.size = n) {c : Array Value} (hy : a.eval y = .agg c) (hn : c.size = n) (h1 : ∀ v ∈ c.toList, v.oneCell' = true)
    (h : ∀ w', St F w0 (x0 :: x1 :: x2 :: x3 :: x4 :: x5 :: x6 :: x7 :: ⟨g, c, t⟩ :: L) R w' → wpList P ops Q rest (a.put o.dst undef) w') : wpList P ops Q (o :: rest) a w :=
  wpList_wanted hw fun _ hK => wSetS8 hS T ho hx ho1 hy hn h1 fun w' hs => hK _ _ (h w' hs)
theorem wSetfS8 {K : Act → World → Prop} {ty : TypeId} {n : Nat} {g off : Nat} {old : Array Value} {t : TypeId} {x0 x1 x2 x3 x4 x5 x6 x7 : Bk} (hS : St F w0 (x0 :: x1 :: x2 :: x3 :: x4 :: x5 :: x6 :: x7 :: ⟨g, old, t⟩ :: L) R w) (hs : (P.info? ty).map (·.size) = some n) {x y : Operand} (ho : o.op = .store ty x y) (hx : a.eval x = .pointer (some ⟨g, off, none⟩)) (hfit : off + n ≤ old.size) {v : Value} (hy : a.eval y = v) (hn : v.cells.size = n) (h1 : ∀ u ∈ v.cells.toList, u.oneCell' = true)
    {c : Array Value} (hc : (old.toList.take off ++ v.cells.toList ++ old.toList.drop (off + n)).toArray = c) (h : ∀ w', St F w0 (x0 :: x1 :: x2 :: x3 :: x4 :: x5 :: x6 :: x7 :: ⟨g, c, t⟩ :: L) R w' → K (a.put o.dst undef) w') : o.wp P a w K Q :=
  wp_put_blk hs ho (hS.blk ⟨g, old, t⟩ (by simp)) hn hfit h1 hx hy fun w' hg k => h w' (St.set (L1 := [x0, x1, x2, x3, x4, x5, x6, x7]) (b := ⟨g, old, t⟩) hS (by rw [hg, hc]) k)
theorem setfS8 {ty : TypeId} {n : Nat} {g off : Nat} {old : Array Value} {t : TypeId} {x0 x1 x2 x3 x4 x5 x6 x7 : Bk} (hS : St F w0 (x0 :: x1 :: x2 :: x3 :: x4 :: x5 :: x6 :: x7 :: ⟨g, old, t⟩ :: L) R w) (hs : (P.info? ty).map (·.size) = some n) (hw : Region.wanted o (yielded ops a.tmps) = true) {x y : Operand} (ho : o.op = .store ty x y) (hx : a.eval x = .pointer (some ⟨g, off, none⟩)) (hfit : off + n ≤ old.size) {v : Value} (hy : a.eval y = v) (hn : v.cells.size = n) (h1 : ∀ u ∈ v.cells.toList, u.oneCell' = true)
    {c : Array Value} (hc : (old.toList.take off ++ v.cells.toList ++ old.toList.drop (off + n)).toArray = c) (h : ∀ w', St F w0 (x0 :: x1 :: x2 :: x3 :: x4 :: x5 :: x6 :: x7 :: ⟨g, c, t⟩ :: L) R w' → wpList P ops Q rest (a.put o.dst undef) w') : wpList P ops Q (o :: rest) a w :=
  wpList_wanted hw fun _ hK => wp_put_blk hs ho (hS.blk ⟨g, old, t⟩ (by simp)) hn hfit h1 hx hy fun w' hg k => hK _ _ (h w' (St.set (L1 := [x0, x1, x2, x3, x4, x5, x6, x7]) (b := ⟨g, old, t⟩) hS (by rw [hg, hc]) k))
theorem getS9 {ty : TypeId} {n : Nat} {g : Nat} {c : Array Value} {t : TypeId} {x0 x1 x2 x3 x4 x5 x6 x7 x8 : Bk} (hS : St F w0 (x0 :: x1 :: x2 :: x3 :: x4 :: x5 :: x6 :: x7 :: x8 :: ⟨g, c, t⟩ :: L) R w) (T : AgT P ty n) (hw : Region.wanted o (yielded ops a.tmps) = true) {x : Operand} (ho : o.op = .load ty x) (hx : a.eval x = .pointer (some ⟨g, 0, none⟩)) (hn : c.size = n)
    (h : wpList P ops Q rest (a.put o.dst (.agg c)) w) : wpList P ops Q (o :: rest) a w :=
  wpList_wanted hw fun _ hK => wp_get_blk T ho (hS.blk ⟨g, c, t⟩ (by simp)) (mid := c.toList) (by rw [List.drop_zero, List.take_of_length_le (by simp [hn])]) (by simpa using hn) hx (hK _ _ h)
theorem getfS9 {ty : TypeId} {n : Nat} {g off : Nat} {c : Array Value} {t : TypeId} {x0 x1 x2 x3 x4 x5 x6 x7 x8 : Bk} (hS : St F w0 (x0 :: x1 :: x2 :: x3 :: x4 :: x5 :: x6 :: x7 :: x8 :: ⟨g, c, t⟩ :: L) R w) (T : AgT P ty n) (hw : Region.wanted o (yielded ops a.tmps) = true) {x : Operand} (ho : o.op = .load ty x) (hx : a.eval x = .pointer (some ⟨g, off, none⟩)) {mid : List Value} (hm : (c.toList.drop off).take n = mid) (hl : mid.length = n)
    (h : wpList P ops Q rest (a.put o.dst (.agg mid.toArray)) w) : wpList P ops Q (o :: rest) a w :=
  wpList_wanted hw fun _ hK => wp_get_blk T ho (hS.blk ⟨g, c, t⟩ (by simp)) hm hl hx (hK _ _ h)
theorem cellS9 {ty : TypeId} {g off : Nat} {c : Array Value} {t : TypeId} {x0 x1 x2 x3 x4 x5 x6 x7 x8 : Bk} (hS : St F w0 (x0 :: x1 :: x2 :: x3 :: x4 :: x5 :: x6 :: x7 :: x8 :: ⟨g, c, t⟩ :: L) R w) (T : ScT P ty) (hw : Region.wanted o (yielded ops a.tmps) = true) {x : Operand} (ho : o.op = .load ty x) (hx : a.eval x = .pointer (some ⟨g, off, none⟩)) {v : Value} (hk : c[off]? = some v)
    (h : wpList P ops Q rest (a.put o.dst v) w) : wpList P ops Q (o :: rest) a w :=
  wpList_wanted hw fun _ hK => wp_cell_blk T ho (hS.blk ⟨g, c, t⟩ (by simp)) hk hx (hK _ _ h)
theorem wSetS9 {K : Act → World → Prop} {ty : TypeId} {n : Nat} {g : Nat} {old : Array Value} {t : TypeId} {x0 x1 x2 x3 x4 x5 x6 x7 x8 : Bk} (hS : St F w0 (x0 :: x1 :: x2 :: x3 :: x4 :: x5 :: x6 :: x7 :: x8 :: ⟨g, old, t⟩ :: L) R w) (T : AgT P ty n) {x y : Operand} (ho : o.op = .store ty x y) (hx : a.eval x = .pointer (some ⟨g, 0, none⟩)) (ho1 : old.size = n) {c : Array Value} (hy : a.eval y = .agg c) (hn : c.size = n) (h1 : ∀ v ∈ c.toList, v.oneCell' = true)
    (h : ∀ w', St F w0 (x0 :: x1 :: x2 :: x3 :: x4 :: x5 :: x6 :: x7 :: x8 :: ⟨g, c, t⟩ :: L) R w' → K (a.put o.dst undef) w') : o.wp P a w K Q :=
  wp_put_blk T.s ho (hS.blk ⟨g, old, t⟩ (by simp)) (v := .agg c) hn (off := 0) (by show 0 + n ≤ old.size; omega) h1 hx hy fun w' hg k => h w' (St.set (L1 := [x0, x1, x2, x3, x4, x5, x6, x7, x8]) (b := ⟨g, old, t⟩) hS (by
    rw [hg]; simp only [List.take_zero, List.nil_append, Value.cells, Nat.zero_add]; rw [List.drop_eq_nil_of_le (by simp; omega)]; simp) k)
theorem setS9 {ty : TypeId} {n : Nat} {g : Nat} {old : Array Value} {t : TypeId} {x0 x1 x2 x3 x4 x5 x6 x7 x8 : Bk} (hS : St F w0 (x0 :: x1 :: x2 :: x3 :: x4 :: x5 :: x6 :: x7 :: x8 :: ⟨g, old, t⟩ :: L) R w) (T : AgT P ty n) (hw : Region.wanted o (yielded ops a.tmps) = true) {x y : Operand} (ho : o.op = .store ty x y) (hx : a.eval x = .pointer (some ⟨g, 0, none⟩)) (ho1 : old.size = n) {c : Array Value} (hy : a.eval y = .agg c) (hn : c.size = n) (h1 : ∀ v ∈ c.toList, v.oneCell' = true)
    (h : ∀ w', St F w0 (x0 :: x1 :: x2 :: x3 :: x4 :: x5 :: x6 :: x7 :: x8 :: ⟨g, c, t⟩ :: L) R w' → wpList P ops Q rest (a.put o.dst undef) w') : wpList P ops Q (o :: rest) a w :=
  wpList_wanted hw fun _ hK => wSetS9 hS T ho hx ho1 hy hn h1 fun w' hs => hK _ _ (h w' hs)
theorem wSetfS9 {K : Act → World → Prop} {ty : TypeId} {n : Nat} {g off : Nat} {old : Array Value} {t : TypeId} {x0 x1 x2 x3 x4 x5 x6 x7 x8 : Bk} (hS : St F w0 (x0 :: x1 :: x2 :: x3 :: x4 :: x5 :: x6 :: x7 :: x8 :: ⟨g, old, t⟩ :: L) R w) (hs : (P.info? ty).map (·.size) = some n) {x y : Operand} (ho : o.op = .store ty x y) (hx : a.eval x = .pointer (some ⟨g, off, none⟩)) (hfit : off + n ≤ old.size) {v : Value} (hy : a.eval y = v) (hn : v.cells.size = n) (h1 : ∀ u ∈ v.cells.toList, u.oneCell' = true)
    {c : Array Value} (hc : (old.toList.take off ++ v.cells.toList ++ old.toList.drop (off + n)).toArray = c) (h : ∀ w', St F w0 (x0 :: x1 :: x2 :: x3 :: x4 :: x5 :: x6 :: x7 :: x8 :: ⟨g, c, t⟩ :: L) R w' → K (a.put o.dst undef) w') : o.wp P a w K Q :=
  wp_put_blk hs ho (hS.blk ⟨g, old, t⟩ (by simp)) hn hfit h1 hx hy fun w' hg k => h w' (St.set (L1 := [x0, x1, x2, x3, x4, x5, x6, x7, x8]) (b := ⟨g, old, t⟩) hS (by rw [hg, hc]) k)
theorem setfS9 {ty : TypeId} {n : Nat} {g off : Nat} {old : Array Value} {t : TypeId} {x0 x1 x2 x3 x4 x5 x6 x7 x8 : Bk} (hS : St F w0 (x0 :: x1 :: x2 :: x3 :: x4 :: x5 :: x6 :: x7 :: x8 :: ⟨g, old, t⟩ :: L) R w) (hs : (P.info? ty).map (·.size) = some n) (hw : Region.wanted o (yielded ops a.tmps) = true) {x y : Operand} (ho : o.op = .store ty x y) (hx : a.eval x = .pointer (some ⟨g, off, none⟩)) (hfit : off + n ≤ old.size) {v : Value} (hy : a.eval y = v) (hn : v.cells.size = n) (h1 : ∀ u ∈ v.cells.toList, u.oneCell' = true)
    {c : Array Value} (hc : (old.toList.take off ++ v.cells.toList ++ old.toList.drop (off + n)).toArray = c) (h : ∀ w', St F w0 (x0 :: x1 :: x2 :: x3 :: x4 :: x5 :: x6 :: x7 :: x8 :: ⟨g, c, t⟩ :: L) R w' → wpList P ops Q rest (a.put o.dst undef) w') : wpList P ops Q (o :: rest) a w :=
  wpList_wanted hw fun _ hK => wp_put_blk hs ho (hS.blk ⟨g, old, t⟩ (by simp)) hn hfit h1 hx hy fun w' hg k => hK _ _ (h w' (St.set (L1 := [x0, x1, x2, x3, x4, x5, x6, x7, x8]) (b := ⟨g, old, t⟩) hS (by rw [hg, hc]) k))
theorem appS0 {e : TypeId} {size : Nat} {av : Option Addr} {n cv : Nat} {xs : List Value} (hS : St F w0 L (⟨e, size, av, n, cv, xs⟩ :: R) w) {t : TypeId} {i : TypeInfo} {z : Value} {bytes : Nat} (T : SlT P t e i z size bytes) (hw : Region.wanted o (yielded ops a.tmps) = true) {s x : Operand} (ho : o.op = .call { callee := .builtin .append, args := #[s, x], argTypes := #[t, t] })
    (hs : a.eval s = .slice av n cv) {ax : Option Addr} {m c : Nat} {news : List Value} (hx : a.eval x = .slice ax m c) (hrd : Rd w ax m c size news) (h1 : ∀ u ∈ news, u.oneCell' = true) (hn : (n + m) * bytes ≤ 140737488355328) (h63 : n + m ≤ maxLen) {n' : Nat} (hn' : n + m = n') {ys : List Value} (hys : xs ++ news = ys)
    (h : ∀ a' c' w', St F w0 L (⟨e, size, a', n', c', ys⟩ :: R) w' → wpList P ops Q rest (a.put o.dst (.slice a' n' c')) w') : wpList P ops Q (o :: rest) a w := by
  subst hn' hys
  exact wpList_wanted hw fun _ hK => wp_append_rd T ho hs (hS.row ⟨e, size, av, n, cv, xs⟩ (by simp)) hx hrd h1 hn h63 fun a' c' w' h2 h3 h4 => hK _ _ (h a' c' w' (St.grow (R1 := []) (r := ⟨e, size, av, n, cv, xs⟩) hS h2 h3 h4))
theorem appS1 {e : TypeId} {size : Nat} {av : Option Addr} {n cv : Nat} {xs : List Value} {x0 : Rw} (hS : St F w0 L (x0 :: ⟨e, size, av, n, cv, xs⟩ :: R) w) {t : TypeId} {i : TypeInfo} {z : Value} {bytes : Nat} (T : SlT P t e i z size bytes) (hw : Region.wanted o (yielded ops a.tmps) = true) {s x : Operand} (ho : o.op = .call { callee := .builtin .append, args := #[s, x], argTypes := #[t, t] })
    (hs : a.eval s = .slice av n cv) {ax : Option Addr} {m c : Nat} {news : List Value} (hx : a.eval x = .slice ax m c) (hrd : Rd w ax m c size news) (h1 : ∀ u ∈ news, u.oneCell' = true) (hn : (n + m) * bytes ≤ 140737488355328) (h63 : n + m ≤ maxLen) {n' : Nat} (hn' : n + m = n') {ys : List Value} (hys : xs ++ news = ys)
    (h : ∀ a' c' w', St F w0 L (x0 :: ⟨e, size, a', n', c', ys⟩ :: R) w' → wpList P ops Q rest (a.put o.dst (.slice a' n' c')) w') : wpList P ops Q (o :: rest) a w := by
  subst hn' hys
  exact wpList_wanted hw fun _ hK => wp_append_rd T ho hs (hS.row ⟨e, size, av, n, cv, xs⟩ (by simp)) hx hrd h1 hn h63 fun a' c' w' h2 h3 h4 => hK _ _ (h a' c' w' (St.grow (R1 := [x0]) (r := ⟨e, size, av, n, cv, xs⟩) hS h2 h3 h4))
theorem appS2 {e : TypeId} {size : Nat} {av : Option Addr} {n cv : Nat} {xs : List Value} {x0 x1 : Rw} (hS : St F w0 L (x0 :: x1 :: ⟨e, size, av, n, cv, xs⟩ :: R) w) {t : TypeId} {i : TypeInfo} {z : Value} {bytes : Nat} (T : SlT P t e i z size bytes) (hw : Region.wanted o (yielded ops a.tmps) = true) {s x : Operand} (ho : o.op = .call { callee := .builtin .append, args := #[s, x], argTypes := #[t, t] })
    (hs : a.eval s = .slice av n cv) {ax : Option Addr} {m c : Nat} {news : List Value} (hx : a.eval x = .slice ax m c) (hrd : Rd w ax m c size news) (h1 : ∀ u ∈ news, u.oneCell' = true) (hn : (n + m) * bytes ≤ 140737488355328) (h63 : n + m ≤ maxLen) {n' : Nat} (hn' : n + m = n') {ys : List Value} (hys : xs ++ news = ys)
    (h : ∀ a' c' w', St F w0 L (x0 :: x1 :: ⟨e, size, a', n', c', ys⟩ :: R) w' → wpList P ops Q rest (a.put o.dst (.slice a' n' c')) w') : wpList P ops Q (o :: rest) a w := by
  subst hn' hys
  exact wpList_wanted hw fun _ hK => wp_append_rd T ho hs (hS.row ⟨e, size, av, n, cv, xs⟩ (by simp)) hx hrd h1 hn h63 fun a' c' w' h2 h3 h4 => hK _ _ (h a' c' w' (St.grow (R1 := [x0, x1]) (r := ⟨e, size, av, n, cv, xs⟩) hS h2 h3 h4))
theorem appS3 {e : TypeId} {size : Nat} {av : Option Addr} {n cv : Nat} {xs : List Value} {x0 x1 x2 : Rw} (hS : St F w0 L (x0 :: x1 :: x2 :: ⟨e, size, av, n, cv, xs⟩ :: R) w) {t : TypeId} {i : TypeInfo} {z : Value} {bytes : Nat} (T : SlT P t e i z size bytes) (hw : Region.wanted o (yielded ops a.tmps) = true) {s x : Operand} (ho : o.op = .call { callee := .builtin .append, args := #[s, x], argTypes := #[t, t] })
    (hs : a.eval s = .slice av n cv) {ax : Option Addr} {m c : Nat} {news : List Value} (hx : a.eval x = .slice ax m c) (hrd : Rd w ax m c size news) (h1 : ∀ u ∈ news, u.oneCell' = true) (hn : (n + m) * bytes ≤ 140737488355328) (h63 : n + m ≤ maxLen) {n' : Nat} (hn' : n + m = n') {ys : List Value} (hys : xs ++ news = ys)
    (h : ∀ a' c' w', St F w0 L (x0 :: x1 :: x2 :: ⟨e, size, a', n', c', ys⟩ :: R) w' → wpList P ops Q rest (a.put o.dst (.slice a' n' c')) w') : wpList P ops Q (o :: rest) a w := by
  subst hn' hys
  exact wpList_wanted hw fun _ hK => wp_append_rd T ho hs (hS.row ⟨e, size, av, n, cv, xs⟩ (by simp)) hx hrd h1 hn h63 fun a' c' w' h2 h3 h4 => hK _ _ (h a' c' w' (St.grow (R1 := [x0, x1, x2]) (r := ⟨e, size, av, n, cv, xs⟩) hS h2 h3 h4))
theorem appS4 {e : TypeId} {size : Nat} {av : Option Addr} {n cv : Nat} {xs : List Value} {x0 x1 x2 x3 : Rw} (hS : St F w0 L (x0 :: x1 :: x2 :: x3 :: ⟨e, size, av, n, cv, xs⟩ :: R) w) {t : TypeId} {i : TypeInfo} {z : Value} {bytes : Nat} (T : SlT P t e i z size bytes) (hw : Region.wanted o (yielded ops a.tmps) = true) {s x : Operand} (ho : o.op = .call { callee := .builtin .append, args := #[s, x], argTypes := #[t, t] })
    (hs : a.eval s = .slice av n cv) {ax : Option Addr} {m c : Nat} {news : List Value} (hx : a.eval x = .slice ax m c) (hrd : Rd w ax m c size news) (h1 : ∀ u ∈ news, u.oneCell' = true) (hn : (n + m) * bytes ≤ 140737488355328) (h63 : n + m ≤ maxLen) {n' : Nat} (hn' : n + m = n') {ys : List Value} (hys : xs ++ news = ys)
    (h : ∀ a' c' w', St F w0 L (x0 :: x1 :: x2 :: x3 :: ⟨e, size, a', n', c', ys⟩ :: R) w' → wpList P ops Q rest (a.put o.dst (.slice a' n' c')) w') : wpList P ops Q (o :: rest) a w := by
  subst hn' hys
  exact wpList_wanted hw fun _ hK => wp_append_rd T ho hs (hS.row ⟨e, size, av, n, cv, xs⟩ (by simp)) hx hrd h1 hn h63 fun a' c' w' h2 h3 h4 => hK _ _ (h a' c' w' (St.grow (R1 := [x0, x1, x2, x3]) (r := ⟨e, size, av, n, cv, xs⟩) hS h2 h3 h4))
end
theorem Tryd.zhash : ZeT Tryd.prog 24 (hv zeroH) := ZeT.mk' (by kernel_rfl)
theorem Tryd.aghash : AgT Tryd.prog 24 32 := Tryd.thash.ag
theorem Tryd.scint : ScT Tryd.prog 3 := ScT.mk' Tryd.underlying3 rfl (by kernel_rfl)
theorem Tryd.schashes : ScT Tryd.prog 22 := ScT.mk' Tryd.underlying22 rfl (by kernel_rfl)
end Go.Proofs.YtgfppmnpccaloaaDoor
