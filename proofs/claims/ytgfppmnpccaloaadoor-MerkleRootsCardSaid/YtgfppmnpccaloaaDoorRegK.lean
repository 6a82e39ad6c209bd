/-
  REGIONS THAT DRAW THEIR ORDER, loads ahead of stores: a condition on the world that must hold till a given operation has come up.
-/
import Derived.Test.YtgfppmnpccaloaaDoorSt2
import Derived.OrdersHeld
namespace Go.Proofs.YtgfppmnpccaloaaDoor
open Go.RowKit

section
variable {P : Program} {ops : Array Oper} {Q : Exit → Act → World → Prop} {md : Region.Mode} {S : World → Prop} {k : Nat}

/-- Whatever order is picked from here on; S holds behind every operation, till number k has come up. -/
def wpAnyK (P : Program) (md : Region.Mode) (ops : Array Oper) (Q : Exit → Act → World → Prop) (S : World → Prop) (k : Nat) : Nat → Array Bool → Act → World → Prop
  | 0, listed, a, w => Region.ready md ops listed = [] ∧ Q .normal a w
  | fuel + 1, listed, a, w =>
    (Region.ready md ops listed = [] → Q .normal a w) ∧
    ∀ i ∈ Region.ready md ops listed, wpOp P ops Q i (fun a' w' => ((listed.setIfInBounds i true).getD k false = false → S w') ∧ wpAnyK P md ops Q S k fuel (listed.setIfInBounds i true) a' w') a w

theorem wpAny_of_K : ∀ (fuel : Nat) (listed : Array Bool) (a : Act) (w : World), wpAnyK P md ops Q S k fuel listed a w → wpAny P md ops Q fuel listed a w
  | 0, _, _, _, h => h
  | fuel + 1, _, _, _, h => ⟨h.1, fun i hi => wpOp_mono (fun a' w' h' => wpAny_of_K fuel _ a' w' h'.2) (h.2 i hi)⟩

theorem setD_ne {l : Array Bool} {i k : Nat} (h : i ≠ k) : (l.setIfInBounds i true).getD k false = l.getD k false := by
  rw [Array.getD_eq_getD_getElem?, Array.getD_eq_getD_getElem?, Array.getElem?_setIfInBounds_ne h]

/-- An operation that reads, for which number k waits. -/
theorem wpAnyK_first {i : Nat} {oi : Oper} {v : Value} (hi : ops[i]? = some oi) (hsel : ∀ (j : Nat) (o : Oper) cs b, ops[j]? = some o → o.op ≠ .select cs b)
    (hQ : ∀ c a w, Q (.panic c) (a.put oi.dst v) w → Q (.panic c) a w) (hk : ∀ ok, ops[k]? = some ok → ∃ e ∈ ok.after, Region.binds md e = true ∧ e.on = i) :
    ∀ (fuel : Nat) (listed : Array Bool) (a : Act) (w : World),
      (∀ j oj, ops[j]? = some oj → j ≠ i → listed.getD j true = false → (∀ e ∈ oj.after, Region.binds md e = true → e.on ≠ i) → oi.apart ops oj = true) →
      i ∈ Region.ready md ops listed → YieldsIf P ops S oi v a → S w → listed.getD k false = false →
      wpAnyK P md ops Q S k fuel (listed.setIfInBounds i true) (a.put oi.dst v) w → wpAnyK P md ops Q S k (fuel + 1) listed a w := by
  intro fuel
  induction fuel with
  | zero =>
    intro listed a w _ hr hy hS hl H
    refine ⟨fun h => (by rw [h] at hr; cases hr), fun j hj => ?_⟩
    by_cases hji : j = i
    · subst hji; exact hy.wpOp hi hS ⟨fun _ => hS, H⟩
    · have := ready_mono hj hji
      rw [H.1] at this
      cases this
  | succ fuel ih =>
    intro listed a w hfree hr hy hS hl H
    refine ⟨fun h => (by rw [h] at hr; cases hr), fun j hj => ?_⟩
    by_cases hji : j = i
    · subst hji; exact hy.wpOp hi hS ⟨fun _ => hS, H⟩
    · have h1 := H.2 j (ready_mono hj hji)
      obtain ⟨hjun, oj, hoj, hall⟩ := mem_ready.1 hj
      have hnot : ∀ e ∈ oj.after, Region.binds md e = true → e.on ≠ i := fun e he hb heq => by
        have h1 := hall e he hb
        have h0 := (mem_ready.1 hr).1
        rw [heq] at h1
        rcases Nat.lt_or_ge i listed.size with h' | h'
        · simp [h'] at h0 h1; rw [h0] at h1; cases h1
        · simp [Array.getElem?_eq_none h'] at h1
      have hjk : j ≠ k := fun hh => by
        subst hh
        obtain ⟨e, he, hb, heq⟩ := hk oj hoj
        exact hnot e he hb heq
      have hik : i ≠ k := fun hh => by
        subst hh
        obtain ⟨e, he, hb, heq⟩ := hk oi hi
        obtain ⟨h0, o', ho', hall'⟩ := mem_ready.1 hr
        obtain rfl := Option.some.inj (hi.symm.trans ho')
        have h1 := hall' e he hb
        rw [heq] at h1
        rcases Nat.lt_or_ge i listed.size with h' | h'
        · simp [h'] at h0 h1; rw [h0] at h1; cases h1
        · simp [Array.getElem?_eq_none h'] at h1
      have h2 := wpOp_putIf hoj (hfree j oj hoj hji hjun hnot) (fun cs b => hsel i oi cs b hi) (fun cs b => hsel j oj cs b hoj) hQ hy h1
      have hfree' : ∀ k ok, ops[k]? = some ok → k ≠ i → (listed.setIfInBounds j true).getD k true = false →
          (∀ e ∈ ok.after, Region.binds md e = true → e.on ≠ i) → oi.apart ops ok = true := fun k ok hk hki hun hno => by
        refine hfree k ok hk hki ?_ hno
        by_cases hjk : j = k
        · subst hjk; exact hjun
        · rw [getD_set_ne true hjk] at hun; exact hun
      refine wpOp_mono (fun a' w' h3 => ?_) h2
      have hl' : (listed.setIfInBounds j true).getD k false = false := by rw [setD_ne hjk]; exact hl
      have hS' : S w' := h3.2.1 (by rw [setD_ne hjk, setD_ne hik]; exact hl)
      refine ⟨fun _ => hS', ih (listed.setIfInBounds j true) a' w' hfree' (ready_mono hr (Ne.symm hji)) h3.1 hS' hl' ?_⟩
      rw [Array.setIfInBounds_comm _ _ hji]
      exact h3.2.2

/-- An operation that yields its value in whatever world. -/
theorem wpAnyK_pure {i : Nat} {oi : Oper} {v : Value} (hi : ops[i]? = some oi) (hsel : ∀ (j : Nat) (o : Oper) cs b, ops[j]? = some o → o.op ≠ .select cs b)
    (hQ : ∀ c a w, Q (.panic c) (a.put oi.dst v) w → Q (.panic c) a w) (hik : i ≠ k) :
    ∀ (fuel : Nat) (listed : Array Bool) (a : Act) (w : World),
      (∀ j oj, ops[j]? = some oj → j ≠ i → listed.getD j true = false → (∀ e ∈ oj.after, Region.binds md e = true → e.on ≠ i) → oi.apart ops oj = true) →
      i ∈ Region.ready md ops listed → YieldsIf P ops (fun _ => True) oi v a → (listed.getD k false = false → S w) →
      wpAnyK P md ops Q S k fuel (listed.setIfInBounds i true) (a.put oi.dst v) w → wpAnyK P md ops Q S k (fuel + 1) listed a w := by
  intro fuel
  induction fuel with
  | zero =>
    intro listed a w _ hr hy hS H
    refine ⟨fun h => (by rw [h] at hr; cases hr), fun j hj => ?_⟩
    by_cases hji : j = i
    · subst hji; exact hy.wpOp hi trivial ⟨fun h => hS (by rw [setD_ne hik] at h; exact h), H⟩
    · have := ready_mono hj hji
      rw [H.1] at this
      cases this
  | succ fuel ih =>
    intro listed a w hfree hr hy hS H
    refine ⟨fun h => (by rw [h] at hr; cases hr), fun j hj => ?_⟩
    by_cases hji : j = i
    · subst hji; exact hy.wpOp hi trivial ⟨fun h => hS (by rw [setD_ne hik] at h; exact h), H⟩
    · have h1 := H.2 j (ready_mono hj hji)
      obtain ⟨hjun, oj, hoj, hall⟩ := mem_ready.1 hj
      have hnot : ∀ e ∈ oj.after, Region.binds md e = true → e.on ≠ i := fun e he hb heq => by
        have h1 := hall e he hb
        have h0 := (mem_ready.1 hr).1
        rw [heq] at h1
        rcases Nat.lt_or_ge i listed.size with h' | h'
        · simp [h'] at h0 h1; rw [h0] at h1; cases h1
        · simp [Array.getElem?_eq_none h'] at h1
      have h2 := wpOp_putIf hoj (hfree j oj hoj hji hjun hnot) (fun cs b => hsel i oi cs b hi) (fun cs b => hsel j oj cs b hoj) hQ hy h1
      have hfree' : ∀ k ok, ops[k]? = some ok → k ≠ i → (listed.setIfInBounds j true).getD k true = false →
          (∀ e ∈ ok.after, Region.binds md e = true → e.on ≠ i) → oi.apart ops ok = true := fun k ok hk hki hun hno => by
        refine hfree k ok hk hki ?_ hno
        by_cases hjk : j = k
        · subst hjk; exact hjun
        · rw [getD_set_ne true hjk] at hun; exact hun
      refine wpOp_mono (fun a' w' h3 => ?_) h2
      have hS' : (listed.setIfInBounds j true).getD k false = false → S w' := fun h => h3.2.1 (by
        rw [Array.setIfInBounds_comm _ _ (Ne.symm hji), setD_ne hik]; exact h)
      refine ⟨hS', ih (listed.setIfInBounds j true) a' w' hfree' (ready_mono hr (Ne.symm hji)) h3.1 hS' ?_⟩
      rw [Array.setIfInBounds_comm _ _ hji]
      exact h3.2.2

/-- Number k waits for number i (or there is no number k). -/
def waitsB (md : Region.Mode) (ops : Array Oper) (k i : Nat) : Bool := match ops[k]? with
  | none => true
  | some ok => ok.after.any fun e => Region.binds md e && e.on == i
theorem waits_spec {i : Nat} (h : waitsB md ops k i = true) : ∀ ok, ops[k]? = some ok → ∃ e ∈ ok.after, Region.binds md e = true ∧ e.on = i := fun ok hok => by
  unfold waitsB at h
  rw [hok] at h
  simp only [Array.any_eq_true', Bool.and_eq_true, beq_iff_eq] at h
  obtain ⟨e, he, hb, hi⟩ := h
  exact ⟨e, he, hb, hi⟩

theorem takeK {i : Nat} {oi : Oper} {dst : Option Tmp} {v : Value} {fuel : Nat} {listed : Array Bool} {a : Act} {w : World} (hi : ops[i]? = some oi) (hd : oi.dst = dst)
    (hs : Region.noSelect ops = true) (hf : Region.free md ops listed i = true) (hr : (Region.ready md ops listed).contains i = true) (hk : waitsB md ops k i = true) (hl : listed.getD k false = false)
    (hQ : ∀ c a w, Q (.panic c) (a.put oi.dst v) w → Q (.panic c) a w) (hS : S w) (hy : YieldsIf P ops S oi v a)
    (h : wpAnyK P md ops Q S k fuel (listed.setIfInBounds i true) (a.put dst v) w) : wpAnyK P md ops Q S k (fuel + 1) listed a w :=
  wpAnyK_first hi (Region.noSelect_spec hs) hQ (waits_spec hk) fuel listed a w (Region.free_spec hi hf) (by simpa using hr) hy hS hl (by rw [hd]; exact h)
theorem takeP {i : Nat} {oi : Oper} {dst : Option Tmp} {v : Value} {fuel : Nat} {listed : Array Bool} {a : Act} {w : World} (hi : ops[i]? = some oi) (hd : oi.dst = dst)
    (hs : Region.noSelect ops = true) (hf : Region.free md ops listed i = true) (hr : (Region.ready md ops listed).contains i = true) (hik : i ≠ k)
    (hQ : ∀ c a w, Q (.panic c) (a.put oi.dst v) w → Q (.panic c) a w) (hS : listed.getD k false = false → S w) (hy : YieldsIf P ops (fun _ => True) oi v a)
    (h : wpAnyK P md ops Q S k fuel (listed.setIfInBounds i true) (a.put dst v) w) : wpAnyK P md ops Q S k (fuel + 1) listed a w :=
  wpAnyK_pure hi (Region.noSelect_spec hs) hQ hik fuel listed a w (Region.free_spec hi hf) (by simpa using hr) hy hS (by rw [hd]; exact h)
/-- The only one that may come up. (The operation is handed on by what it does and its slot.) -/
theorem goK {i : Nat} {o : Oper} {dst : Option Tmp} {fuel : Nat} {listed : Array Bool} {a : Act} {w : World} (hr : Region.ready md ops listed = [i]) (ho : ops[i]? = some o) (hd : o.dst = dst) (hw : Region.wanted o (yielded ops a.tmps) = true)
    (h : ∀ o' : Oper, o'.op = o.op → o'.dst = dst → o'.wp P a w (fun a' w' => ((listed.setIfInBounds i true).getD k false = false → S w') ∧ wpAnyK P md ops Q S k fuel (listed.setIfInBounds i true) a' w') Q) : wpAnyK P md ops Q S k (fuel + 1) listed a w := by
  refine ⟨fun h0 => (by rw [hr] at h0; cases h0), fun j hj => ?_⟩
  rw [hr] at hj
  simp only [List.mem_singleton] at hj
  subst hj
  unfold wpOp
  rw [ho]
  simp only [hw, if_true]
  exact .inl (h o rfl hd)
/-- One of two. -/
theorem goK2 {i j : Nat} {o p : Oper} {dst dst2 : Option Tmp} {fuel : Nat} {listed : Array Bool} {a : Act} {w : World} (hr : Region.ready md ops listed = [i, j]) (ho : ops[i]? = some o) (hp : ops[j]? = some p) (hd : o.dst = dst) (hd2 : p.dst = dst2) (hw : Region.wanted o (yielded ops a.tmps) = true) (hv : Region.wanted p (yielded ops a.tmps) = true)
    (h : ∀ o' : Oper, o'.op = o.op → o'.dst = dst → o'.wp P a w (fun a' w' => ((listed.setIfInBounds i true).getD k false = false → S w') ∧ wpAnyK P md ops Q S k fuel (listed.setIfInBounds i true) a' w') Q)
    (h' : ∀ o' : Oper, o'.op = p.op → o'.dst = dst2 → o'.wp P a w (fun a' w' => ((listed.setIfInBounds j true).getD k false = false → S w') ∧ wpAnyK P md ops Q S k fuel (listed.setIfInBounds j true) a' w') Q) : wpAnyK P md ops Q S k (fuel + 1) listed a w := by
  refine ⟨fun h0 => (by rw [hr] at h0; cases h0), fun l hl => ?_⟩
  rw [hr] at hl
  simp only [List.mem_cons, List.not_mem_nil, or_false] at hl
  rcases hl with rfl | rfl
  · unfold wpOp
    rw [ho]
    simp only [hw, if_true]
    exact .inl (h o rfl hd)
  · unfold wpOp
    rw [hp]
    simp only [hv, if_true]
    exact .inl (h' p rfl hd2)
theorem doneK {listed : Array Bool} {a : Act} {w : World} (hr : Region.ready md ops listed = []) (h : Q .normal a w) : ∀ fuel, wpAnyK P md ops Q S k fuel listed a w
  | 0 => ⟨hr, h⟩
  | _ + 1 => ⟨fun _ => h, by rw [hr]; simp⟩
theorem regionK {id : Nat} {a : Act} {w : World} (k : Nat) (S : World → Prop) (hm : P.follows .mixedOrders = true) (hS : S w.drew)
    (h : S w.drew → wpAnyK P .any ops Q S k ops.size (Array.replicate ops.size false) a w.drew) : (Code.region id ops true).wp P Q a w :=
  wp_region_any hm (wpAny_of_K _ _ _ _ (h hS))
/-- An operation whose guard says no. -/
theorem yields_off {o : Oper} {a : Act} {T : World → Prop} (h : Region.wanted o (yielded ops a.tmps) = false) : YieldsIf P ops T o undef a := .inr ⟨h, rfl⟩
theorem yields_get {o : Oper} {a : Act} {ty : TypeId} {n : Nat} (T : AgT P ty n) {x : Operand} (hw : Region.wanted o (yielded ops a.tmps) = true) (ho : o.op = .load ty x) {b off : Nat} (hx : a.eval x = .pointer (some ⟨b, off, none⟩)) {cs : List Value} (hn : cs.length = n) (hS : ∀ w, S w → w.rangeAt b off cs) :
    YieldsIf P ops S o (.agg cs.toArray) a := by
  obtain ⟨⟨d, hu, hd⟩, hs⟩ := T
  exact yieldsIf_load_mid hw ty x ho b off hx cs d hS hu hd (by rw [hs, hn])
theorem yields_cell {o : Oper} {a : Act} {ty : TypeId} (T : ScT P ty) {x : Operand} (hw : Region.wanted o (yielded ops a.tmps) = true) (ho : o.op = .load ty x) {p : Addr} (hx : a.eval x = .pointer (some p)) {v : Value} (hS : ∀ w, S w → w.cell? p = some v) :
    YieldsIf P ops S o v a := by
  refine .inl ⟨hw, fun w h => ?_⟩
  have hr := run_loadAt_cell (P := P) T (hS w h)
  unfold execOp
  simp only [ho, hx, Sem.run_bind, hr, Result.andThen_ok, Sem.run_pure]
/-- A call, met by its contract. -/
theorem wp_callC {o : Oper} {a : Act} {w : World} {K : Act → World → Prop} {f : FuncId} {fn : Func} (hf : P.funcs[f]? = some fn) (hn : (fn.name == "runtime.NumGoroutine") = false) (hb : fn.body.isNone = false) {xs : Array Operand} {ts : Array TypeId} (ho : o.op = .call { callee := .value (.func f), args := xs, argTypes := ts }) {vs : Array Value} (hx : xs.map a.eval = vs)
    {R : Ending → World → Prop} (hc : Calls P f vs w R) (h : ∀ e w', R e w' → ∃ v, e = .returned v ∧ K (a.put o.dst v) w') : o.wp P a w K Q :=
  wp_callf hf hn hb ho hx (hc.mono fun e w' he => h e w' he)
end
theorem St.range {F : List Nat} {w0 : World} {L : List Bk} {R : List Rw} {w : World} (h : St F w0 L R w) {g : Nat} {c : Array Value} {t : TypeId} (hb : (⟨g, c, t⟩ : Bk) ∈ L) {off : Nat} {mid : List Value} (hm : (c.toList.drop off).take mid.length = mid) : w.rangeAt g off mid := fun j v hv => by
  rw [cell_of_row w g _ _ _ _ (h.blk _ hb)]
  rw [← hm, List.getElem?_take] at hv
  split at hv
  · rw [List.getElem?_drop] at hv; simpa using hv
  · cases hv
theorem St.rangeH {F : List Nat} {w0 : World} {L : List Bk} {R : List Rw} {w : World} (h : St F w0 L R w) {g : Nat} {x : Hsh} {t : TypeId} (hb : (⟨g, hvA x, t⟩ : Bk) ∈ L) : w.rangeAt g 0 (hcs x) :=
  h.range hb (by simp [hvA])
theorem St.cellAt {F : List Nat} {w0 : World} {L : List Bk} {R : List Rw} {w : World} (h : St F w0 L R w) {g : Nat} {c : Array Value} {t : TypeId} (hb : (⟨g, c, t⟩ : Bk) ∈ L) {off : Nat} {v : Value} (hk : c[off]? = some v) : w.cell? ⟨g, off, none⟩ = some v :=
  (cell_of_row w g off _ _ _ (h.blk _ hb)).trans hk
theorem hcsA (x : Hsh) : (hcs x).toArray = hvA x := rfl
end Go.Proofs.YtgfppmnpccaloaaDoor
