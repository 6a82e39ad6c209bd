import Derived.Test.YtgfppmnpccaloaaDoorStruct
import Derived.Deep.RegionHeld3
import Derived.Deep.MidRow
namespace Go.Proofs.YtgfppmnpccaloaaDoor
open Go.RowKit

/-- Bytes by their cells, from one place on: are they the same? -/
theorem run_part_u8 {P : Program} (w : World) {e : TypeId} (he : P.underlying e = some (.int .u8)) (l : List UInt8) (k : Nat) (hk : k < l.length) :
    (part e (bcs l).toArray k).run P w = .ok (bcell l[k]) w := by
  have hg : (bcs l).toArray[k]? = some (bcell l[k]) := by simp [bcs, hk]
  simp [part, isAgg, run_underlying he, hg]
theorem run_eq_loop {P : Program} (w : World) {e : TypeId} (he : P.underlying e = some (.int .u8)) (d : Nat) (x y : List UInt8) (hxy : x.length = y.length) : ∀ (m k : Nat), k + m = x.length →
    (forIn (List.range' k m) ((none : Option Bool), ()) fun i (__s : Option Bool × Unit) => do
              let a ← part e (bcs x).toArray (i * 1)
              let b ← part e (bcs y).toArray (i * 1)
              let r ← Op.equalIn (d + 1) e a b
              if r = false then pure (ForInStep.done (some false, ())) else pure (ForInStep.yield ((none : Option Bool), ()))).run P w =
      .ok (if x.drop k = y.drop k then (none, ()) else (some false, ())) w := by
  intro m
  induction m with
  | zero =>
    intro k hk
    have h1 : x.drop k = [] := List.drop_eq_nil_of_le (by omega)
    have h2 : y.drop k = [] := List.drop_eq_nil_of_le (by omega)
    simp [h1, h2]
  | succ m ih =>
    intro k hk
    have hkx : k < x.length := by omega
    have hky : k < y.length := by omega
    have p1 := run_part_u8 (P := P) w he x k hkx
    have p2 := run_part_u8 (P := P) w he y k hky
    have q : (Op.equalIn (d + 1) e (bcell x[k]) (bcell y[k])).run P w = .ok ((x[k].toNat : Int) == (y[k].toNat : Int)) w := run_equalIn_int w d e .u8 .u8 _ _ he
    rw [List.range'_succ, List.forIn_cons]
    simp only [Sem.run_bind, Nat.mul_one, p1, p2, q, Result.andThen_ok]
    have hx : x.drop k = x[k] :: x.drop (k + 1) := List.drop_eq_getElem_cons hkx
    have hy : y.drop k = y[k] :: y.drop (k + 1) := List.drop_eq_getElem_cons hky
    have hd : (x.drop k = y.drop k) = (x[k] = y[k] ∧ x.drop (k + 1) = y.drop (k + 1)) := by rw [hx, hy, List.cons.injEq]
    by_cases h : x[k] = y[k]
    · have hb : ((x[k].toNat : Int) == (y[k].toNat : Int)) = true := by rw [h]; simp
      have := ih (k + 1) (by omega)
      simp only [Nat.mul_one] at this
      simp only [hb, Bool.true_eq_false, if_false, Sem.run_pure, Result.andThen_ok, this]
      by_cases ht : x.drop (k + 1) = y.drop (k + 1)
      · rw [if_pos ht, if_pos (by rw [hd]; exact ⟨h, ht⟩)]
      · rw [if_neg ht, if_neg (by rw [hd]; exact fun hh => ht hh.2)]
    · have hb : ((x[k].toNat : Int) == (y[k].toNat : Int)) = false := by
        rw [beq_eq_false_iff_ne]
        intro hh
        exact h (UInt8.toNat_inj.1 (by omega))
      simp only [hb, if_true, Sem.run_pure, Result.andThen_ok]
      rw [if_neg (by rw [hd]; exact fun hh => h hh.1)]

theorem run_equalIn_hash {P : Program} (w : World) {t e : TypeId} {i : TypeInfo} (ht : P.underlying t = some (.array 32 e)) (he : P.underlying e = some (.int .u8)) (hi : P.info? e = some i) (hs : i.size = 1) (d : Nat) (x y : Hsh) :
    (Op.equalIn (d + 2) t (hv x) (hv y)).run P w = .ok (decide (x = y)) w := by
  have hz : (sizeOf e).run P w = .ok 1 w := by simp [sizeOf, typeInfo, hi, hs]
  have hl := run_eq_loop (P := P) w he d x.1 y.1 (by rw [x.2, y.2]) 32 0 (by rw [x.2])
  unfold Op.equalIn
  simp only [Sem.run_bind, run_underlying ht, Result.andThen_ok, hz]
  simp
  simp only [List.drop_zero] at hl
  refine (congrArg (fun r => Result.andThen r _) hl).trans ?_
  by_cases h : x = y
  · subst h; simp
  · have : ¬ x.1 = y.1 := fun e => h (Subtype.ext e)
    simp [h, this]

theorem run_eql_hash {P : Program} (w : World) {t e : TypeId} {i : TypeInfo} (ht : P.underlying t = some (.array 32 e)) (he : P.underlying e = some (.int .u8)) (hi : P.info? e = some i) (hs : i.size = 1) (x y : Hsh) :
    (binOp .eql t (hv x) (hv y)).run P w = .ok (.bool (decide (x = y))) w := by
  simp only [binOp]
  simp [Op.equal, Op.maxDepth, run_equalIn_hash w ht he hi hs 9998 x y]
theorem run_neq_hash {P : Program} (w : World) {t e : TypeId} {i : TypeInfo} (ht : P.underlying t = some (.array 32 e)) (he : P.underlying e = some (.int .u8)) (hi : P.info? e = some i) (hs : i.size = 1) (x y : Hsh) :
    (binOp .neq t (hv x) (hv y)).run P w = .ok (.bool (!decide (x = y))) w := by
  simp only [binOp]
  simp [Op.equal, Op.maxDepth, run_equalIn_hash w ht he hi hs 9998 x y]
/-- The load of a whole array, and '!=' of two hashes, where a region draws. -/
theorem step_get {P : Program} {ops : Array Oper} {o : Oper} {a : Act} {w : World} {K : Act → World → Prop} {Q : Exit → Act → World → Prop} {E : Prop} {ty : TypeId} {n : Nat} (T : ArT P ty n) (hgd : o.guard = none) {x : Operand} (ho : o.op = .load ty x)
    {g : Nat} {t : TypeId} {cs : Array Value} {fr : Nat × Nat} (hg : w.heap[g]? = some (.cells cs t fr)) (hn : cs.size = n) (hx : a.eval x = .pointer (some ⟨g, 0, none⟩))
    (h : K (a.put o.dst (.agg cs)) w) : if Region.wanted o (yielded ops a.tmps) = true then Oper.wp P o a w K Q else E := by
  have hw : Region.wanted o (yielded ops a.tmps) = true := by simp [Region.wanted, hgd]
  rw [if_pos hw]
  obtain ⟨⟨k, e, hu⟩, hs⟩ := T
  exact wp_load_row ty x ho g hx t cs fr _ hg hu rfl (by rw [hs, hn]) h
theorem run_guard_hash {P : Program} (w : World) {t : TypeId} (hgt : P.eqGuardType P.depth t = false) (op : BinOp) (p q : Operand) (x y : Hsh) : (eqGuard op t p q (hv x) (hv y)).run P w = .ok () w := by
  cases op <;> simp [eqGuard, run_program, hgt]
theorem wp_neq_hash {P : Program} {o : Oper} {a : Act} {w : World} {K : Act → World → Prop} {Q : Exit → Act → World → Prop} {t e r : TypeId} {i : TypeInfo} {p q : Operand} (ho : o.op = .binOp .neq t p q r)
    (ht : P.underlying t = some (.array 32 e)) (he : P.underlying e = some (.int .u8)) (hi : P.info? e = some i) (hs : i.size = 1) (hgt : P.eqGuardType P.depth t = false) {x y : Hsh} (hx : a.eval p = hv x) (hy : a.eval q = hv y)
    (h : K (a.put o.dst (.bool (!decide (x = y)))) w) : Oper.wp P o a w K Q := by
  have hrun := run_neq_hash w ht he hi hs x y
  unfold Oper.wp execOp
  have hgd := run_guard_hash w hgt .neq p q x y
  simp only [ho, hx, hy, Sem.run_bind, hgd, hrun, Result.andThen_ok, Sem.run_pure]
  exact h
theorem step_neq_hash {P : Program} {ops : Array Oper} {o : Oper} {a : Act} {w : World} {K : Act → World → Prop} {Q : Exit → Act → World → Prop} {E : Prop} {t e r : TypeId} {i : TypeInfo} {p q : Operand} (hgd : o.guard = none) (ho : o.op = .binOp .neq t p q r)
    (ht : P.underlying t = some (.array 32 e)) (he : P.underlying e = some (.int .u8)) (hi : P.info? e = some i) (hs : i.size = 1) (hgt : P.eqGuardType P.depth t = false) {x y : Hsh} (hx : a.eval p = hv x) (hy : a.eval q = hv y)
    (h : K (a.put o.dst (.bool (!decide (x = y)))) w) : if Region.wanted o (yielded ops a.tmps) = true then Oper.wp P o a w K Q else E := by
  have hw : Region.wanted o (yielded ops a.tmps) = true := by simp [Region.wanted, hgd]
  rw [if_pos hw]
  exact wp_neq_hash ho ht he hi hs hgt hx hy h

theorem Tryd.infoU8 : ∃ i, Tryd.prog.info? 5 = some i ∧ i.size = 1 := by
  have h : (Tryd.prog.info? 5).map (·.size) = some 1 := by kernel_rfl
  cases hi : Tryd.prog.info? 5 with
  | none => rw [hi] at h; cases h
  | some i => rw [hi] at h; exact ⟨i, rfl, by simpa using h⟩
theorem Tryd.equalHash (w : World) (x y : Hsh) : (Op.equalIn 10000 24 (hv x) (hv y)).run Tryd.prog w = .ok (decide (x = y)) w := by
  obtain ⟨i, hi, hs⟩ := Tryd.infoU8
  exact run_equalIn_hash w Tryd.underlying24 Tryd.underlying5 hi hs 9998 x y

end Go.Proofs.YtgfppmnpccaloaaDoor
theorem Eq.drewB {w : Go.World} {g : Nat} {o : Go.Obj} (h : w.heap[g]? = some o) : w.drew.heap[g]? = some o := h
theorem Go.World.rangeAt.keptK {w w' : Go.World} {b o : Nat} {cs : List Go.Value} {F : List Nat} (h : w.rangeAt b o cs) (k : Go.Proofs.YtgfppmnpccaloaaDoor.Kp F w w') (hF : b ∉ F) : w'.rangeAt b o cs := fun j v hv => by
  have hc := h j v hv
  exact (k.cell (World.block_lt_of_cell? _ _ hc) hF).trans hc
