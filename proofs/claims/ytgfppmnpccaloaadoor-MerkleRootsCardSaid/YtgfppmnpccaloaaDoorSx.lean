/-
  THE FRAME AS A LIST: what a slot holds, the newest first; one law an operation, over values alone; blocks part by part; regions that draw their order.
-/
import Derived.Test.YtgfppmnpccaloaaDoorRegK
import Derived.Test.YtgfppmnpccaloaaDoorEq
import Derived.Lib.AppendZerosOnto
namespace Go.Proofs.YtgfppmnpccaloaaDoor
open Go.RowKit

/-- What the list says of slot i. -/
noncomputable def lk (i : Nat) (l : List (Nat × Value)) : Option Value := List.rec (motive := fun _ => Option Value) none (fun p _ ih => Prod.rec (motive := fun _ => Option Value) (fun k v => bif Nat.beq k i then some v else ih) p) l
theorem lk_cons (i : Nat) (p : Nat × Value) (l : List (Nat × Value)) : lk i (p :: l) = bif Nat.beq p.1 i then some p.2 else lk i l := rfl

theorem beq_no {i j : Nat} (h : ¬ i = j) : Nat.beq i j = false := by
  cases hb : Nat.beq i j with
  | false => rfl
  | true => exact absurd (Nat.eq_of_beq_eq_true hb) h
structure Fr (m : List (Nat × Value)) (n : Nat) (a : Act) : Prop where
  size : a.tmps.size = n
  defers : a.defers = []
  val : ∀ k v, lk k m = some v → a.tmps[k]? = some v

noncomputable def ev (m : List (Nat × Value)) : Operand → Option Value
  | .tmp t => lk t m
  | .const v => some v
  | .global g => some (.pointer (some ⟨g, 0, none⟩))
  | .func f => some (.func (.func f) #[] #[])
noncomputable def evs (m : List (Nat × Value)) : List Operand → Option (List Value)
  | [] => some []
  | x :: xs => (ev m x).bind fun v => (evs m xs).map fun vs => v :: vs

theorem evs_nil {m : List (Nat × Value)} : evs m [] = some [] := rfl
theorem evs_cons {m : List (Nat × Value)} {x : Operand} {v : Value} {xs : List Operand} {vs : List Value} (h : ev m x = some v) (t : evs m xs = some vs) : evs m (x :: xs) = some (v :: vs) := by
  unfold evs; rw [h, t]; rfl
theorem Fr.eval {m : List (Nat × Value)} {n : Nat} {a : Act} (h : Fr m n a) {x : Operand} {v : Value} (hx : ev m x = some v) : a.eval x = v := by
  cases x with
  | tmp t => have := h.val t v hx; show a.tmps.getD t undef = v; rw [Array.getD_eq_getD_getElem?, this]; rfl
  | const u => exact Option.some.inj hx
  | global g => exact Option.some.inj hx
  | func f => exact Option.some.inj hx
theorem Fr.evals {m : List (Nat × Value)} {n : Nat} {a : Act} (h : Fr m n a) : ∀ {xs : List Operand} {vs : List Value}, evs m xs = some vs → xs.map a.eval = vs
  | [], vs, hx => by simpa [evs] using Option.some.inj hx
  | x :: xs, vs, hx => by
    unfold evs at hx
    cases h1 : ev m x with
    | none => rw [h1] at hx; cases hx
    | some v =>
      rw [h1] at hx
      cases h2 : evs m xs with
      | none => rw [h2] at hx; cases hx
      | some us =>
        rw [h2] at hx
        obtain rfl := Option.some.inj hx
        rw [List.map_cons, h.eval h1, h.evals h2]
theorem Fr.put {m : List (Nat × Value)} {n : Nat} {a : Act} (h : Fr m n a) {d : Nat} (hd : Nat.blt d n = true) (v : Value) : Fr ((d, v) :: m) n (a.put (some d) v) := by
  have hlt : d < n := by simpa [Nat.blt_eq] using hd
  refine ⟨by show (a.tmps.setIfInBounds d v).size = n; rw [Array.size_setIfInBounds, h.size], h.defers, fun k u hk => ?_⟩
  rw [lk_cons] at hk
  show (a.tmps.setIfInBounds d v)[k]? = some u
  by_cases hkd : d = k
  · subst hkd
    simp at hk; subst hk
    exact Array.getElem?_setIfInBounds_self_of_lt (by rw [h.size]; exact hlt)
  · have : Nat.beq d k = false := beq_no hkd
    rw [this] at hk
    rw [Array.getElem?_setIfInBounds_ne hkd]
    exact h.val k u hk
/-- Where a call begins. -/
theorem Fr.enter {m : List (Nat × Value)} {n : Nat} {args : List Value} (hm : ∀ k v, lk k m = some v → args[k]? = some v) (hn : args.length ≤ n) : Fr m n { tmps := args.toArray ++ Array.replicate (n - args.toArray.size) undef, defers := [] } := by
  refine ⟨by simp; omega, rfl, fun k v hk => ?_⟩
  have h1 := hm k v hk
  have hlt := (List.getElem?_eq_some_iff.1 h1).1
  rw [Array.getElem?_append_left (by simpa using hlt)]
  simpa using h1
noncomputable def numbered (k : Nat) (l : List Value) : List (Nat × Value) := List.rec (motive := fun _ => Nat → List (Nat × Value)) (fun _ => []) (fun v _ ih k => (k, v) :: ih (k + 1)) l k
theorem lk_numbered : ∀ (l : List Value) (k i : Nat) (v : Value), lk i (numbered k l) = some v → k ≤ i ∧ l[i - k]? = some v
  | [], k, i, v, h => by cases h
  | u :: l, k, i, v, h => by
    have h' : (bif Nat.beq k i then some u else lk i (numbered (k + 1) l)) = some v := h
    by_cases hki : k = i
    · subst hki; simp at h'; exact ⟨Nat.le_refl _, by simp [h']⟩
    · have hb : Nat.beq k i = false := beq_no hki
      rw [hb] at h'
      obtain ⟨h1, h2⟩ := lk_numbered l (k + 1) i v h'
      refine ⟨by omega, ?_⟩
      rw [show i - k = (i - (k + 1)) + 1 by omega, List.getElem?_cons_succ]
      exact h2
theorem calls_sx {P : Program} {f : FuncId} {fn : Func} {c : Code} {args : List Value} {w : World} {R : Ending → World → Prop} (hf : P.funcs[f]? = some fn) (hb : fn.body = some c) {n : Nat} (hn : fn.ntmps = n) (hle : Nat.ble args.length n = true)
    (h : ∀ a, Fr (numbered 0 args) n a → c.wp P (bodyPost P fn R) a w) : Calls P f args.toArray w R := by
  refine calls_of_wp hf hb (h _ ?_)
  have := Fr.enter (m := numbered 0 args) (n := n) (args := args) (fun k v hk => by have := (lk_numbered args 0 k v hk).2; simpa using this) (by simpa using hle)
  rw [hn]
  exact this

/-- The list m', as m says it. -/
noncomputable def agrees (m : List (Nat × Value)) (m' : List (Nat × Value)) : Prop := List.rec (motive := fun _ => Prop) True (fun p _ ih => Prod.rec (motive := fun _ => Prop) (fun k v => lk k m = some v ∧ ih) p) m'
theorem Fr.sub {m m' : List (Nat × Value)} {n : Nat} {a : Act} (h : Fr m n a) (hs : agrees m m') : Fr m' n a := by
  refine ⟨h.size, h.defers, ?_⟩
  induction m' with
  | nil => intro k v hk; cases hk
  | cons p m' ih =>
    intro k v hk
    have hs' : lk p.1 m = some p.2 ∧ agrees m m' := hs
    rw [lk_cons] at hk
    by_cases hp : p.1 = k
    · subst hp; simp at hk; subst hk; exact h.val _ _ hs'.1
    · have hb : Nat.beq p.1 k = false := beq_no hp
      rw [hb] at hk
      exact ih hs'.2 k v hk

/-! ### Guards -/
noncomputable def want (l : List Oper) (m : List (Nat × Value)) : Option (Nat × Bool) → Option Bool
  | none => some true
  | some (j, b) => match (l[j]?).bind (·.dst) with
    | none => some false
    | some s => match lk s m with
      | some (.bool c) => some (c == b)
      | some (.tuple _) => some false
      | _ => none
theorem wanted_of {l : List Oper} {m : List (Nat × Value)} {n : Nat} {a : Act} (hF : Fr m n a) {o : Oper} {c : Bool} (h : want l m o.guard = some c) : Region.wanted o (yielded l.toArray a.tmps) = c := by
  unfold Region.wanted
  cases hg : o.guard with
  | none => rw [hg] at h; simpa [want] using h
  | some p =>
    obtain ⟨j, b⟩ := p
    rw [hg] at h
    simp only [want] at h
    show (yielded l.toArray a.tmps j == some b) = c
    have hl : l.toArray[j]? = l[j]? := by simp
    unfold yielded
    rw [hl]
    cases hd : (l[j]?).bind (·.dst) with
    | none => rw [hd] at h; simp at h; subst h; rfl
    | some s =>
      rw [hd] at h
      simp only at h
      rw [Option.bind_some]
      cases hk : lk s m with
      | none => rw [hk] at h; cases h
      | some v =>
        rw [hF.val s v hk]
        rw [hk] at h
        cases v <;> simp_all

/-- A list's element, to be reckoned. -/
noncomputable def nth (l : List Value) : Nat → Option Value := List.rec (motive := fun _ => Nat → Option Value) (fun _ => none) (fun v _ ih i => bif Nat.beq i 0 then some v else ih (i - 1)) l
theorem nth_is : ∀ (l : List Value) (i : Nat) (v : Value), nth l i = some v → l[i]? = some v
  | [], _, _, h => by cases h
  | u :: l, i, v, h => by
    have h' : (bif Nat.beq i 0 then some u else nth l (i - 1)) = some v := h
    by_cases h0 : i = 0
    · subst h0; rw [show Nat.beq 0 0 = true from rfl] at h'; simpa using h'
    · rw [beq_no h0] at h'
      have := nth_is l (i - 1) v h'
      rw [show i = (i - 1) + 1 by omega, List.getElem?_cons_succ]; exact this
/-! ### What an operation yields, in a world of which S holds, which it leaves alone -/
def Yl (P : Program) (S : World → Prop) (op : Op) (m : List (Nat × Value)) (v : Value) : Prop := ∀ (o : Oper) (n : Nat) (a : Act) (w : World), o.op = op → Fr m n a → S w → (execOp a.eval o).run P w = .ok (.value v) w

section
variable {P : Program} {S : World → Prop} {m : List (Nat × Value)} {v : Value}
theorem yl_move {x : Operand} (hx : ev m x = some v) : Yl P S (.move x) m v := fun o n a w ho hF _ => by
  unfold execOp; simp only [ho, hF.eval hx, Sem.run_pure]
theorem yl_assign {x : Operand} (hx : ev m x = some v) : Yl P S (.assign x) m v := fun o n a w ho hF _ => by
  unfold execOp; simp only [ho, hF.eval hx, Sem.run_pure]
theorem yl_pick {c x y : Operand} {b : Bool} (hc : ev m c = some (.bool b)) (hx : ev m (bif b then x else y) = some v) : Yl P S (.pick c x y) m v := fun o n a w ho hF _ => by
  have hx' := hF.eval hx
  unfold execOp; simp only [ho, hF.eval hc, Sem.run_bind, Sem.run_pure]
  cases b <;> simp_all [asBool]
theorem yl_bin {bop : BinOp} {xt yt : TypeId} {x y : Operand} {p q : Value} (hx : ev m x = some p) (hy : ev m y = some q) (h : ∀ w, S w → (do eqGuard bop xt x y p q; binOp bop xt p q : Sem Value).run P w = .ok v w) : Yl P S (.binOp bop xt x y yt) m v := fun o n a w ho hF hS => by
  have := h w hS
  unfold execOp
  simp only [ho, hF.eval hx, hF.eval hy]
  rw [Sem.run_bind, this]; rfl
theorem yl_un {uop : UnOp} {xt : TypeId} {x : Operand} {p : Value} (hx : ev m x = some p) (h : ∀ w, (Op.unary uop p).run P w = .ok v w) : Yl P S (.unOp uop xt x) m v := fun o n a w ho hF _ => by
  have := h w
  unfold execOp
  simp only [ho, hF.eval hx]
  rw [Sem.run_bind, this]; rfl
theorem yl_conv {s d : TypeId} {x : Operand} {p : Value} (hx : ev m x = some p) (h : ∀ w, S w → (convert s d p).run P w = .ok v w) : Yl P S (.convert s d x) m v := fun o n a w ho hF hS => by
  have := h w hS
  unfold execOp
  simp only [ho, hF.eval hx]
  rw [Sem.run_bind, this]; rfl
theorem yl_load {t : TypeId} {x : Operand} {p : Value} (hx : ev m x = some p) (h : ∀ w, S w → (Instr.loadAt t p).run P w = .ok v w) : Yl P S (.load t x) m v := fun o n a w ho hF hS => by
  have := h w hS
  unfold execOp
  simp only [ho, hF.eval hx]
  rw [Sem.run_bind, this]; rfl
theorem yl_fieldAddr {t : TypeId} {x : Operand} {f : Nat} {p : Value} (hx : ev m x = some p) (h : ∀ w, (Instr.fieldAt t p f).run P w = .ok v w) : Yl P S (.fieldAddr t x f) m v := fun o n a w ho hF _ => by
  have := h w
  unfold execOp
  simp only [ho, hF.eval hx]
  rw [Sem.run_bind, this]; rfl
theorem yl_field {t : TypeId} {x : Operand} {f : Nat} {p : Value} (hx : ev m x = some p) (h : ∀ w, (Instr.field t p f).run P w = .ok v w) : Yl P S (.field t x f) m v := fun o n a w ho hF _ => by
  have := h w
  unfold execOp
  simp only [ho, hF.eval hx]
  rw [Sem.run_bind, this]; rfl
theorem yl_indexAddr {t : TypeId} {x y : Operand} {p q : Value} (hx : ev m x = some p) (hy : ev m y = some q) (h : ∀ w, (Instr.indexAt t p q).run P w = .ok v w) : Yl P S (.indexAddr t x y) m v := fun o n a w ho hF _ => by
  have := h w
  unfold execOp
  simp only [ho, hF.eval hx, hF.eval hy]
  rw [Sem.run_bind, this]; rfl
theorem yl_index {t : TypeId} {x y : Operand} {p q : Value} (hx : ev m x = some p) (hy : ev m y = some q) (h : ∀ w, (Instr.index t p q).run P w = .ok v w) : Yl P S (.index t x y) m v := fun o n a w ho hF _ => by
  have := h w
  unfold execOp
  simp only [ho, hF.eval hx, hF.eval hy]
  rw [Sem.run_bind, this]; rfl
noncomputable def evo (m : List (Nat × Value)) : Option Operand → Option (Option Value)
  | none => some none
  | some x => (ev m x).map some
theorem Fr.evo {n : Nat} {a : Act} (h : Fr m n a) {x : Option Operand} {v : Option Value} (hx : Go.Proofs.YtgfppmnpccaloaaDoor.evo m x = some v) : x.map a.eval = v := by
  cases x with
  | none => exact Option.some.inj hx
  | some x =>
    simp only [Go.Proofs.YtgfppmnpccaloaaDoor.evo] at hx
    cases h1 : ev m x with
    | none => rw [h1] at hx; cases hx
    | some u => rw [h1] at hx; obtain rfl := Option.some.inj hx; rw [Option.map_some, h.eval h1]
theorem yl_slice {t : TypeId} {x : Operand} {lo hi mx : Option Operand} {p : Value} {l h k : Option Value} (hx : ev m x = some p) (hl : evo m lo = some l) (hh : evo m hi = some h) (hm : evo m mx = some k) (hr : ∀ w, (Instr.sliceAt t p l h k).run P w = .ok v w) : Yl P S (.slice t x lo hi mx) m v := fun o n a w ho hF _ => by
  have := hr w
  unfold execOp
  simp only [ho, hF.eval hx, hF.evo hl, hF.evo hh, hF.evo hm]
  rw [Sem.run_bind, this]; rfl
theorem yl_extract {x : Operand} {i : Nat} {vs : List Value} (hx : ev m x = some (.tuple vs.toArray)) (hv : nth vs i = some v) : Yl P S (.extract x i) m v := fun o n a w ho hF _ => by
  have hv' : vs.toArray[i]? = some v := by simpa using nth_is vs i v hv
  unfold execOp
  simp only [ho, hF.eval hx, Instr.extract, hv', Sem.run_bind, Sem.run_pure, Result.andThen_ok]
theorem yl_makeFunc {f : Fn} {x y : Array Operand} {p q : List Value} (hx : evs m x.toList = some p) (hy : evs m y.toList = some q) : Yl P S (.makeFunc f x y) m (.func f p.toArray q.toArray) := fun o n a w ho hF _ => by
  have h1 : x.map a.eval = p.toArray := by rw [← hF.evals hx]; apply Array.ext'; simp
  have h2 : y.map a.eval = q.toArray := by rw [← hF.evals hy]; apply Array.ext'; simp
  unfold execOp
  simp only [ho, h1, h2, Instr.makeFunc, Sem.run_bind, Sem.run_pure, Result.andThen_ok]
theorem yl_nilCheck {x : Operand} {p : Addr} (hx : ev m x = some (.pointer (some p))) : Yl P S (.nilCheck x) m (.pointer (some p)) := fun o n a w ho hF _ => by
  unfold execOp
  simp only [ho, hF.eval hx, Sem.run_pure]
theorem yl_build {t : TypeId} {parts : Array (Nat × Operand)} {vs : List Value} (hx : evs m (parts.toList.map (·.2)) = some vs) (h : ∀ w, (Instr.build t ((parts.toList.map (·.1)).zip vs).toArray).run P w = .ok v w) : Yl P S (.build t parts) m v := fun o n a w ho hF _ => by
  have h1 : (parts.map fun (i, x) => (i, a.eval x)) = ((parts.toList.map (·.1)).zip vs).toArray := by
    rw [← hF.evals hx]
    apply Array.ext'
    simp only [Array.toList_map]
    induction parts.toList with
    | nil => rfl
    | cons p l ih => simp [ih]
  have := h w
  unfold execOp
  simp only [ho, h1]
  rw [Sem.run_bind, this]; rfl
/-- A builtin that only reads. -/
theorem yl_builtin {b : Builtin} {args : Array Operand} {ts : Array TypeId} {vs : List Value} (hx : evs m args.toList = some vs) (h : ∀ (t : TypeId) (c : Array Bool) (w : World), S w → (builtin b ts t c vs.toArray).run P w = .ok (.value v) w) : Yl P S (.call { callee := .builtin b, args := args, argTypes := ts }) m v := fun o n a w ho hF hS => by
  have h1 : args.map a.eval = vs.toArray := by rw [← hF.evals hx]; apply Array.ext'; simp
  unfold execOp
  simp only [ho, resolve, invoke, Sem.run_bind, Sem.run_pure, Result.andThen_ok, h1]
  exact h _ _ _ hS

/-! ### Values -/
theorem yl_len_slice {t u : TypeId} (hu : P.underlying t = some (.slice u)) {x : Operand} {a : Option Addr} {n c : Nat} (hx : ev m x = some (.slice a n c)) : Yl P S (.call { callee := .builtin .len, args := #[x], argTypes := #[t] }) m (.int .i64 n) :=
  yl_builtin (vs := [.slice a n c]) (by unfold evs evs; rw [hx]; rfl) fun ty c' w _ => by
    simp [builtin, Builtin.len_, run_underlying hu, Sem.run_bind, Sem.run_pure, Result.andThen_ok, goInt]
theorem yl_len_string {t : TypeId} (hu : P.underlying t = some .string) {x : Operand} {s : ByteArray} (hx : ev m x = some (.string s)) : Yl P S (.call { callee := .builtin .len, args := #[x], argTypes := #[t] }) m (.int .i64 s.size) :=
  yl_builtin (vs := [.string s]) (by unfold evs evs; rw [hx]; rfl) fun ty c' w _ => by
    simp [builtin, Builtin.len_, run_underlying hu, Sem.run_bind, Sem.run_pure, Result.andThen_ok, goInt]
theorem yl_min {t : Array TypeId} {x y : Operand} {k : IntKind} {p q : Int} (hx : ev m x = some (.int k p)) (hy : ev m y = some (.int k q)) : Yl P S (.call { callee := .builtin .min, args := #[x, y], argTypes := t }) m (.int k (if q < p then q else p)) :=
  yl_builtin (vs := [.int k p, .int k q]) (by unfold evs evs evs; rw [hx, hy]; rfl) fun ty c' w _ => by
    simp [builtin, Builtin.min_, Builtin.min2, Sem.run_pure]
theorem yl_max {t : Array TypeId} {x y : Operand} {k : IntKind} {p q : Int} (hx : ev m x = some (.int k p)) (hy : ev m y = some (.int k q)) : Yl P S (.call { callee := .builtin .max, args := #[x, y], argTypes := t }) m (.int k (if p < q then q else p)) :=
  yl_builtin (vs := [.int k p, .int k q]) (by unfold evs evs evs; rw [hx, hy]; rfl) fun ty c' w _ => by
    simp [builtin, Builtin.max_, Builtin.max2, Sem.run_pure]
variable {k : IntKind} {xt yt : TypeId} {x y : Operand} {p q : Int}
theorem yl_add (hx : ev m x = some (.int k p)) (hy : ev m y = some (.int k q)) : Yl P S (.binOp .add xt x y yt) m (.int k (k.wrap (p + q))) :=
  yl_bin hx hy fun w _ => by simp [eqGuard, binOp, Op.intArith, Sem.run_pure]
theorem yl_sub (hx : ev m x = some (.int k p)) (hy : ev m y = some (.int k q)) : Yl P S (.binOp .sub xt x y yt) m (.int k (k.wrap (p - q))) :=
  yl_bin hx hy fun w _ => by simp [eqGuard, binOp, Op.intArith, Sem.run_pure]
theorem yl_mul (hx : ev m x = some (.int k p)) (hy : ev m y = some (.int k q)) : Yl P S (.binOp .mul xt x y yt) m (.int k (k.wrap (p * q))) :=
  yl_bin hx hy fun w _ => by simp [eqGuard, binOp, Op.intArith, Sem.run_pure]
theorem yl_quo (hx : ev m x = some (.int k p)) (hy : ev m y = some (.int k q)) (h : q ≠ 0) : Yl P S (.binOp .quo xt x y yt) m (.int k (k.wrap (p.tdiv q))) :=
  yl_bin hx hy fun w _ => by simp [eqGuard, binOp, Op.intDiv, h, Sem.run_pure]
theorem yl_rem (hx : ev m x = some (.int k p)) (hy : ev m y = some (.int k q)) (h : q ≠ 0) : Yl P S (.binOp .rem xt x y yt) m (.int k (p.tmod q)) :=
  yl_bin hx hy fun w _ => by simp [eqGuard, binOp, Op.intDiv, h, Sem.run_pure]
/-- A value under its own name. -/
theorem Yl.to {op : Op} {u : Value} (h : Yl P S op m v) (e : v = u) : Yl P S op m u := e ▸ h
theorem to_int {a b : Int} (h : a = b) : Value.int k a = .int k b := by rw [h]
theorem i64w {a b : Int} (h : a = b) (h1 : -9223372036854775808 ≤ b) (h2 : b ≤ 9223372036854775807) : Value.int .i64 (IntKind.i64.wrap a) = .int .i64 b := by
  rw [h, IntWalk.i64_in _ ⟨h1, h2⟩]
theorem yl_add64 (hx : ev m x = some (.int .i64 p)) (hy : ev m y = some (.int .i64 q)) {r : Int} (h : p + q = r) (h2 : -9223372036854775808 ≤ r ∧ r ≤ 9223372036854775807) : Yl P S (.binOp .add xt x y yt) m (.int .i64 r) := (yl_add hx hy).to (i64w h h2.1 h2.2)
theorem yl_sub64 (hx : ev m x = some (.int .i64 p)) (hy : ev m y = some (.int .i64 q)) {r : Int} (h : p - q = r) (h2 : -9223372036854775808 ≤ r ∧ r ≤ 9223372036854775807) : Yl P S (.binOp .sub xt x y yt) m (.int .i64 r) := (yl_sub hx hy).to (i64w h h2.1 h2.2)
theorem yl_mul64 (hx : ev m x = some (.int .i64 p)) (hy : ev m y = some (.int .i64 q)) {r : Int} (h : p * q = r) (h2 : -9223372036854775808 ≤ r ∧ r ≤ 9223372036854775807) : Yl P S (.binOp .mul xt x y yt) m (.int .i64 r) := (yl_mul hx hy).to (i64w h h2.1 h2.2)
theorem yl_quo64 (hx : ev m x = some (.int .i64 p)) (hy : ev m y = some (.int .i64 q)) (hq : q ≠ 0) {r : Int} (h : p.tdiv q = r) (h2 : -9223372036854775808 ≤ r ∧ r ≤ 9223372036854775807) : Yl P S (.binOp .quo xt x y yt) m (.int .i64 r) := (yl_quo hx hy hq).to (i64w h h2.1 h2.2)
theorem yl_cmp {bop : BinOp} {b : Bool} (hx : ev m x = some (.int k p)) (hy : ev m y = some (.int k q))
    (h : ∀ w, (Op.intCmp bop p q).run P w = .ok (.bool b) w) (hb : (match bop with | .eql | .neq | .lss | .leq | .gtr | .geq => true | _ => false) = true) : Yl P S (.binOp bop xt x y yt) m (.bool b) :=
  yl_bin hx hy fun w _ => by
    have := h w
    cases bop <;> simp_all [eqGuard, binOp]
theorem yl_lss {b : Bool} (hx : ev m x = some (.int k p)) (hy : ev m y = some (.int k q)) (h : decide (p < q) = b) : Yl P S (.binOp .lss xt x y yt) m (.bool b) := yl_cmp hx hy (fun w => by simp only [Op.intCmp, Sem.run_pure, h]) rfl
theorem yl_leq {b : Bool} (hx : ev m x = some (.int k p)) (hy : ev m y = some (.int k q)) (h : decide (p ≤ q) = b) : Yl P S (.binOp .leq xt x y yt) m (.bool b) := yl_cmp hx hy (fun w => by simp only [Op.intCmp, Sem.run_pure, h]) rfl
theorem yl_gtr {b : Bool} (hx : ev m x = some (.int k p)) (hy : ev m y = some (.int k q)) (h : decide (p > q) = b) : Yl P S (.binOp .gtr xt x y yt) m (.bool b) := yl_cmp hx hy (fun w => by simp only [Op.intCmp, Sem.run_pure, h]) rfl
theorem yl_geq {b : Bool} (hx : ev m x = some (.int k p)) (hy : ev m y = some (.int k q)) (h : decide (p ≥ q) = b) : Yl P S (.binOp .geq xt x y yt) m (.bool b) := yl_cmp hx hy (fun w => by simp only [Op.intCmp, Sem.run_pure, h]) rfl
theorem yl_eql {b : Bool} (hx : ev m x = some (.int k p)) (hy : ev m y = some (.int k q)) (h : decide (p = q) = b) : Yl P S (.binOp .eql xt x y yt) m (.bool b) := yl_cmp hx hy (fun w => by simp only [Op.intCmp, Sem.run_pure]; rw [show (p == q) = b by rw [← h, Bool.eq_iff_iff]; simp]) rfl
theorem yl_neq {b : Bool} (hx : ev m x = some (.int k p)) (hy : ev m y = some (.int k q)) (h : decide (p ≠ q) = b) : Yl P S (.binOp .neq xt x y yt) m (.bool b) := yl_cmp hx hy (fun w => by simp only [Op.intCmp, Sem.run_pure]; rw [show (p != q) = b by rw [← h, Bool.eq_iff_iff]; simp]) rfl
theorem yl_not {b : Bool} (hx : ev m x = some (.bool b)) : Yl P S (.unOp .not xt x) m (.bool (!b)) := yl_un hx fun w => by simp [Op.unary]
theorem yl_iconv {s d : TypeId} {dk : IntKind} (hx : ev m x = some (.int k p)) (hs : (P.underlying s).isSome = true) (hd : P.underlying d = some (.int dk)) : Yl P S (.convert s d x) m (.int dk (dk.wrap p)) := yl_conv hx fun w _ => by
  cases h : P.underlying s with
  | none => rw [h] at hs; cases hs
  | some u => simp [convert, run_underlying h, run_underlying hd, Conv.intToInt, Sem.run_bind, Sem.run_pure, Result.andThen_ok]
end

/-! ### The ways on -/
section
variable {P : Program} {Q : Exit → Act → World → Prop} {K : Act → World → Prop} {a : Act} {w : World}
theorem then_n (h : K a w) : Exit.then K Q .normal a w := h
theorem then_x {i : Nat} (h : Q (.exit i) a w) : Exit.then K Q (.exit i) a w := h
theorem then_r (h : Q .ret a w) : Exit.then K Q .ret a w := h
theorem blk_n {i : Nat} (h : Q .normal a w) : Exit.inBlock i Q .normal a w := h
theorem blk_r {i : Nat} (h : Q .ret a w) : Exit.inBlock i Q .ret a w := h
theorem blk_hit {i : Nat} (h : Q .normal a w) : Exit.inBlock i Q (.exit i) a w := by
  show if i = i then Q .normal a w else Q (.exit i) a w
  rw [if_pos rfl]; exact h
theorem blk_miss {i j : Nat} (hne : j ≠ i) (h : Q (.exit j) a w) : Exit.inBlock i Q (.exit j) a w := by
  show if j = i then Q .normal a w else Q (.exit j) a w
  rw [if_neg hne]; exact h
theorem cx_true {m : List (Nat × Value)} {n : Nat} {c : Operand} {x y : Code} (hF : Fr m n a) (hc : ev m c = some (.bool true)) (h : x.wp P Q a w) : (Code.cond c x y).wp P Q a w := wp_cond_true (hF.eval hc) h
theorem cx_false {m : List (Nat × Value)} {n : Nat} {c : Operand} {x y : Code} (hF : Fr m n a) (hc : ev m c = some (.bool false)) (h : y.wp P Q a w) : (Code.cond c x y).wp P Q a w := wp_cond_false (hF.eval hc) h
theorem cx_split {m : List (Nat × Value)} {n : Nat} {c : Operand} {x y : Code} {b : Bool} (hF : Fr m n a) (hc : ev m c = some (.bool b)) (ht : b = true → x.wp P Q a w) (hf : b = false → y.wp P Q a w) : (Code.cond c x y).wp P Q a w := wp_cond_split (hF.eval hc) ht hf
theorem cx_loop {m : List (Nat × Value)} {n : Nat} (_ : Fr m n a) {c : Code} (I : List (Nat × Value) → Nat → Act → World → Prop) (h0 : ∃ d, I m d a w)
    (round : ∀ d a w, I m d a w → c.wp P (Exit.then (fun a' w' => ∃ d', d' < d ∧ I m d' a' w') Q) a w) : (Code.loop c).wp P Q a w := by
  intro b k cs
  have key : ∀ d a w, I m d a w → ∃ e a' w', Q e a' w' ∧ Arrives P (lone (b.at a (.code c :: .inLoop c :: k)) cs w) b k cs e a' w' := by
    intro d
    induction d using Nat.strongRecOn with
    | _ d ih =>
      intro a w hI
      obtain ⟨e, a₁, w₁, hq, harr⟩ := round d a w hI b (.inLoop c :: k) cs
      cases e with
      | normal =>
        obtain ⟨d', hlt, hI₁⟩ := hq
        obtain ⟨e₂, a₂, w₂, hq₂, harr₂⟩ := ih d' hlt a₁ w₁ hI₁
        exact ⟨e₂, a₂, w₂, hq₂, .of_steps (Steps.trans harr (.one step_inLoop)) harr₂⟩
      | exit id => exact ⟨_, a₁, w₁, hq, .pass (x := .inLoop c) rfl (fun _ _ => .inl (by simp)) harr⟩
      | goto l => exact ⟨_, a₁, w₁, hq, .pass (x := .inLoop c) rfl (fun _ _ => .inl (by simp)) harr⟩
      | ret => exact ⟨_, a₁, w₁, hq, .pass (x := .inLoop c) rfl (fun _ _ => .inl (by simp)) harr⟩
      | panic ch => exact ⟨_, a₁, w₁, hq, .pass (x := .inLoop c) rfl (fun _ _ => .inl (by simp)) harr⟩
      | outgrown => exact ⟨_, a₁, w₁, hq, .pass (x := .inLoop c) rfl (fun _ _ => .inl (by simp)) harr⟩
  obtain ⟨d0, h0⟩ := h0
  obtain ⟨e, a', w', hq, harr⟩ := key _ a w h0
  exact ⟨e, a', w', hq, .of_steps (.one step_loop) harr⟩
end
theorem ag_nil {m : List (Nat × Value)} : agrees m [] := trivial
theorem ag_cons {m : List (Nat × Value)} {i : Nat} {v : Value} {l : List (Nat × Value)} (h : lk i m = some v) (t : agrees m l) : agrees m ((i, v) :: l) := ⟨h, t⟩

/-! ### Steps of a region that runs in the text's order -/
section
variable {P : Program} {l rest : List Oper} {Q : Exit → Act → World → Prop} {m : List (Nat × Value)} {n d : Nat} {a : Act} {w : World} {op : Op} {ty : TypeId} {pos : String} {af : Array Edge} {g : Option (Nat × Bool)} {v : Value}
theorem sx_y {S : World → Prop} (hF : Fr m n a) (hS : S w) (hy : Yl P S op m v) (hd : Nat.blt d n = true) (hg : want l m g = some true) (h : ∀ a', Fr ((d, v) :: m) n a' → wpList P l.toArray Q rest a' w) : wpList P l.toArray Q (⟨some d, op, ty, pos, af, g⟩ :: rest) a w :=
  wpList_wanted (wanted_of hF hg) fun K hK => by
    unfold Oper.wp
    rw [hy _ n a w rfl hF hS]
    exact hK _ _ (h _ (hF.put hd v))
theorem sx_off (hF : Fr m n a) (hd : Nat.blt d n = true) (hg : want l m g = some false) (h : ∀ a', Fr ((d, undef) :: m) n a' → wpList P l.toArray Q rest a' w) : wpList P l.toArray Q (⟨some d, op, ty, pos, af, g⟩ :: rest) a w :=
  wpList_step fun K hK => by
    rw [wanted_of hF (c := false) hg, if_neg (by simp)]
    exact hK _ _ (h _ (hF.put hd undef))
theorem sx_off0 (hF : Fr m n a) (hg : want l m g = some false) (h : wpList P l.toArray Q rest a w) : wpList P l.toArray Q (⟨none, op, ty, pos, af, g⟩ :: rest) a w :=
  wpList_step fun K hK => by
    rw [wanted_of hF (c := false) hg, if_neg (by simp)]
    exact hK _ _ h
/-- A test that is not decided: both ways. -/
theorem sx_dec {S : World → Prop} {p : Prop} [Decidable p] (hF : Fr m n a) (hS : S w) (hy : Yl P S op m (.bool (decide p))) (hd : Nat.blt d n = true) (hg : want l m g = some true) (hT : p → ∀ a', Fr ((d, .bool true) :: m) n a' → wpList P l.toArray Q rest a' w) (hN : ¬ p → ∀ a', Fr ((d, .bool false) :: m) n a' → wpList P l.toArray Q rest a' w) : wpList P l.toArray Q (⟨some d, op, ty, pos, af, g⟩ :: rest) a w := by
  by_cases hp : p
  · rw [decide_eq_true hp] at hy; exact sx_y hF hS hy hd hg (hT hp)
  · rw [decide_eq_false hp] at hy; exact sx_y hF hS hy hd hg (hN hp)

/-- What an operation does to the world w, with what it yields. -/
def Ef (P : Program) (op : Op) (m : List (Nat × Value)) (w : World) (R : Value → World → Prop) : Prop := ∀ (o : Oper) (n : Nat) (a : Act) (K : Act → World → Prop) (Q : Exit → Act → World → Prop), o.op = op → Fr m n a → (∀ v w', R v w' → K (a.put o.dst v) w') → o.wp P a w K Q
theorem sx_ef {R : Value → World → Prop} (hF : Fr m n a) (he : Ef P op m w R) (hd : Nat.blt d n = true) (hg : want l m g = some true) (h : ∀ v w' a', R v w' → Fr ((d, v) :: m) n a' → wpList P l.toArray Q rest a' w') : wpList P l.toArray Q (⟨some d, op, ty, pos, af, g⟩ :: rest) a w :=
  wpList_wanted (wanted_of hF hg) fun K hK => he _ n a K Q rfl hF fun v w' hR => hK _ _ (h v w' _ hR (hF.put hd v))
theorem sx_ef0 {R : Value → World → Prop} (hF : Fr m n a) (he : Ef P op m w R) (hg : want l m g = some true) (h : ∀ v w', R v w' → wpList P l.toArray Q rest a w') : wpList P l.toArray Q (⟨none, op, ty, pos, af, g⟩ :: rest) a w :=
  wpList_wanted (wanted_of hF hg) fun K hK => he _ n a K Q rfl hF fun v w' hR => hK _ _ (h v w' hR)
/-- A call, met by its contract. -/
theorem ef_call {f : FuncId} {fn : Func} (hf : P.funcs[f]? = some fn) (hn : (fn.name == "runtime.NumGoroutine") = false) (hb : fn.body.isNone = false) {xs : Array Operand} {ts : Array TypeId} {vs : List Value} (hx : evs m xs.toList = some vs) {R : Ending → World → Prop} (hc : Calls P f vs.toArray w R) {R' : Value → World → Prop} (hR : ∀ e w', R e w' → ∃ v, e = .returned v ∧ R' v w') :
    Ef P (.call { callee := .value (.func f), args := xs, argTypes := ts }) m w R' := fun o n a K Q ho hF h => by
  have h1 : xs.map a.eval = vs.toArray := by rw [← hF.evals hx]; apply Array.ext'; simp
  exact wp_callf hf hn hb ho h1 (hc.mono fun e w' he => by obtain ⟨v, rfl, hv⟩ := hR e w' he; exact ⟨v, rfl, h v w' hv⟩)
end

/-- A call of a function value. -/
theorem ef_callv {P : Program} {m : List (Nat × Value)} {w : World} {f : FuncId} {fn : Func} {x : Operand} {cap : List Value} (hv : ev m x = some (.func (.func f) #[] cap.toArray)) (hf : P.funcs[f]? = some fn) (hn : (fn.name == "runtime.NumGoroutine") = false) (hb : fn.body.isNone = false) {xs : Array Operand} {ts : Array TypeId} {vs : List Value} (hx : evs m xs.toList = some vs) {R : Ending → World → Prop} (hc : Calls P f (vs ++ cap).toArray w R) {R' : Value → World → Prop} (hR : ∀ e w', R e w' → ∃ v, e = .returned v ∧ R' v w') :
    Ef P (.call { callee := .value x, args := xs, argTypes := ts }) m w R' := fun o n a K Q ho hF h => by
  have h1 : xs.map a.eval = vs.toArray := by rw [← hF.evals hx]; apply Array.ext'; simp
  have he : execOp a.eval o = callFunc f (#[] ++ xs.map a.eval ++ cap.toArray) := by
    unfold execOp; rw [ho]
    simp only [resolve, hF.eval hv, Deferred.ofValue]
    rfl
  unfold Oper.wp
  rw [he, h1, Array.empty_append, show vs.toArray ++ cap.toArray = (vs ++ cap).toArray by simp, run_enter hf hn hb]
  refine hc.mono ?_
  intro e w' hR0
  obtain ⟨v, rfl, hv'⟩ := hR e w' hR0
  exact h v w' hv'

/-! ### Blocks, part by part -/
noncomputable def sgL (s : List (Nat × Value)) : List Value := s.flatMap fun p => p.2.cells.toList
noncomputable def sgA (s : List (Nat × Value)) : Array Value := (sgL s).toArray
/-- A value of so many cells. -/
class Cv (n : Nat) (v : Value) : Prop where
  s : v.cells.size = n
  one : ∀ u ∈ v.cells.toList, u.oneCell' = true
class SgW (s : List (Nat × Value)) : Prop where
  all : ∀ p ∈ s, Cv p.1 p.2
instance : SgW [] := ⟨by simp⟩
instance {n : Nat} {v : Value} {s : List (Nat × Value)} [h : Cv n v] [hs : SgW s] : SgW ((n, v) :: s) := ⟨fun p hp => by
  rcases List.mem_cons.1 hp with rfl | hp
  · exact h
  · exact hs.all p hp⟩
theorem SgW.tl {p : Nat × Value} {s : List (Nat × Value)} (h : SgW (p :: s)) : SgW s := ⟨fun q hq => h.all q (List.mem_cons_of_mem _ hq)⟩
theorem SgW.hd {p : Nat × Value} {s : List (Nat × Value)} (h : SgW (p :: s)) : Cv p.1 p.2 := h.all p List.mem_cons_self
instance {k : IntKind} {i : Int} : Cv 1 (.int k i) := ⟨rfl, by intro u hu; simp [Value.cells] at hu; subst hu; rfl⟩
instance {b : Bool} : Cv 1 (.bool b) := ⟨rfl, by intro u hu; simp [Value.cells] at hu; subst hu; rfl⟩
instance {s : ByteArray} : Cv 1 (.string s) := ⟨rfl, by intro u hu; simp [Value.cells] at hu; subst hu; rfl⟩
instance {a : Option Addr} {n c : Nat} : Cv 1 (.slice a n c) := ⟨rfl, by intro u hu; simp [Value.cells] at hu; subst hu; rfl⟩
instance {a : Option Addr} : Cv 1 (.pointer a) := ⟨rfl, by intro u hu; simp [Value.cells] at hu; subst hu; rfl⟩
instance {b : UInt8} : Cv 1 (bcell b) := ⟨rfl, by intro u hu; simp [bcell, Value.cells] at hu; subst hu; rfl⟩
instance {x : Hsh} : Cv 32 (.agg (hvA x)) := ⟨hvA_size x, hvA_one x⟩
theorem sgL_cons (p : Nat × Value) (s : List (Nat × Value)) : sgL (p :: s) = p.2.cells.toList ++ sgL s := by simp [sgL]
noncomputable def sgN (s : List (Nat × Value)) : Nat := List.rec (motive := fun _ => Nat) 0 (fun p _ ih => p.1 + ih) s
theorem sgL_length : ∀ (s : List (Nat × Value)), SgW s → (sgL s).length = sgN s
  | [], _ => rfl
  | p :: s, h => by
    rw [sgL_cons, List.length_append, sgL_length s h.tl]
    have := h.hd.s
    show p.2.cells.toList.length + sgN s = p.1 + sgN s
    simp [this]
theorem sgL_one (s : List (Nat × Value)) (h : SgW s) : ∀ u ∈ sgL s, u.oneCell' = true := by
  intro u hu
  simp only [sgL, List.mem_flatMap] at hu
  obtain ⟨p, hp, hu⟩ := hu
  exact (h.all p hp).one u hu
theorem cv_sg {s : List (Nat × Value)} (h : SgW s) : Cv (sgN s) (.agg (sgA s)) := ⟨by show (sgL s).toArray.size = _; simpa using sgL_length s h, by show ∀ u ∈ ((sgL s).toArray).toList, _; simpa using sgL_one s h⟩
/-- The part at an offset. -/
noncomputable def sgGet (s : List (Nat × Value)) : Nat → Nat → Option Value := List.rec (motive := fun _ => Nat → Nat → Option Value) (fun _ _ => none) (fun p _ ih off sz => Prod.rec (motive := fun _ => Option Value) (fun k v => bif Nat.beq off 0 then (bif Nat.beq k sz then some v else none) else bif Nat.ble k off then ih (off - k) sz else none) p) s
theorem sgGet_spec : ∀ (s : List (Nat × Value)) (off sz : Nat) (v : Value), SgW s → sgGet s off sz = some v → v.cells.size = sz ∧ ((sgL s).drop off).take sz = v.cells.toList ∧ off + sz ≤ (sgL s).length
  | [], _, _, _, _, h => by cases h
  | p :: s, off, sz, v, hw, h => by
    have h' : (bif Nat.beq off 0 then (bif Nat.beq p.1 sz then some p.2 else none) else bif Nat.ble p.1 off then sgGet s (off - p.1) sz else none) = some v := h
    have hs := hw.hd.s
    have hsl : p.2.cells.toList.length = p.1 := by simpa using hs
    by_cases h0 : off = 0
    · subst h0
      rw [show Nat.beq 0 0 = true from rfl] at h'; simp only [cond_true] at h'
      by_cases h1 : p.1 = sz
      · subst h1
        simp at h'; subst h'
        refine ⟨hs, ?_, ?_⟩
        · rw [sgL_cons, List.drop_zero, List.take_left' hsl]
        · rw [sgL_cons, List.length_append, hsl]; omega
      · rw [beq_no h1] at h'; simp at h'
    · rw [beq_no h0] at h'
      by_cases h1 : p.1 ≤ off
      · have hb : Nat.ble p.1 off = true := by simpa using h1
        rw [hb] at h'
        obtain ⟨e1, e2, e3⟩ := sgGet_spec s (off - p.1) sz v hw.tl h'
        refine ⟨e1, ?_, ?_⟩
        · rw [sgL_cons, List.drop_append, List.drop_eq_nil_of_le (by rw [hsl]; exact h1), List.nil_append, hsl]; exact e2
        · rw [sgL_cons, List.length_append, hsl]; omega
      · have hb : Nat.ble p.1 off = false := by
          cases hq : Nat.ble p.1 off with
          | false => rfl
          | true => exact absurd (Nat.le_of_ble_eq_true hq) h1
        rw [hb] at h'; cases h'
/-- The parts from an offset on, so many cells. -/
noncomputable def sgTake (s : List (Nat × Value)) : Nat → Option (List (Nat × Value)) := List.rec (motive := fun _ => Nat → Option (List (Nat × Value))) (fun sz => bif Nat.beq sz 0 then some [] else none) (fun p _ ih sz => bif Nat.beq sz 0 then some [] else bif Nat.ble p.1 sz then (ih (sz - p.1)).map (p :: ·) else none) s
noncomputable def sgCut (s : List (Nat × Value)) : Nat → Nat → Option (List (Nat × Value)) := List.rec (motive := fun _ => Nat → Nat → Option (List (Nat × Value))) (fun _ _ => none) (fun p s ih off sz => bif Nat.beq off 0 then sgTake (p :: s) sz else bif Nat.ble p.1 off then ih (off - p.1) sz else none) s
theorem ble_no {i j : Nat} (h : ¬ i ≤ j) : Nat.ble i j = false := by
  cases hq : Nat.ble i j with
  | false => rfl
  | true => exact absurd (Nat.le_of_ble_eq_true hq) h
theorem sgTake_spec : ∀ (s : List (Nat × Value)) (sz : Nat) (t : List (Nat × Value)), SgW s → sgTake s sz = some t → (sgL t).length = sz ∧ (sgL s).take sz = sgL t ∧ sz ≤ (sgL s).length
  | [], sz, t, _, h => by
    have h' : (bif Nat.beq sz 0 then some [] else none) = some t := h
    by_cases h0 : sz = 0
    · subst h0; simp at h'; subst h'; simp [sgL]
    · rw [beq_no h0] at h'; cases h'
  | p :: s, sz, t, hw, h => by
    have h' : (bif Nat.beq sz 0 then some [] else bif Nat.ble p.1 sz then (sgTake s (sz - p.1)).map (p :: ·) else none) = some t := h
    have hsl : p.2.cells.toList.length = p.1 := by simpa using hw.hd.s
    by_cases h0 : sz = 0
    · subst h0; simp at h'; subst h'; simp [sgL]
    · rw [beq_no h0] at h'
      by_cases h1 : p.1 ≤ sz
      · have hb : Nat.ble p.1 sz = true := by simpa using h1
        rw [hb] at h'
        simp only [cond_false, cond_true, Option.map_eq_some_iff] at h'
        obtain ⟨t', ht, rfl⟩ := h'
        obtain ⟨e1, e2, e3⟩ := sgTake_spec s (sz - p.1) t' hw.tl ht
        refine ⟨?_, ?_, ?_⟩
        · rw [sgL_cons, List.length_append, hsl, e1]; omega
        · rw [sgL_cons, sgL_cons, List.take_append, List.take_of_length_le (by rw [hsl]; exact h1), hsl, e2]
        · rw [sgL_cons, List.length_append, hsl]; omega
      · rw [ble_no h1] at h'; cases h'
theorem sgCut_spec : ∀ (s : List (Nat × Value)) (off sz : Nat) (t : List (Nat × Value)), SgW s → sgCut s off sz = some t → (sgL t).length = sz ∧ ((sgL s).drop off).take sz = sgL t ∧ off + sz ≤ (sgL s).length
  | [], _, _, _, _, h => by cases h
  | p :: s, off, sz, t, hw, h => by
    have h' : (bif Nat.beq off 0 then sgTake (p :: s) sz else bif Nat.ble p.1 off then sgCut s (off - p.1) sz else none) = some t := h
    have hsl : p.2.cells.toList.length = p.1 := by simpa using hw.hd.s
    by_cases h0 : off = 0
    · subst h0
      rw [show Nat.beq 0 0 = true from rfl] at h'; simp only [cond_true] at h'
      have := sgTake_spec (p :: s) sz t hw h'
      simpa using this
    · rw [beq_no h0] at h'
      by_cases h1 : p.1 ≤ off
      · have hb : Nat.ble p.1 off = true := by simpa using h1
        rw [hb] at h'
        obtain ⟨e1, e2, e3⟩ := sgCut_spec s (off - p.1) sz t hw.tl h'
        refine ⟨e1, ?_, ?_⟩
        · rw [sgL_cons, List.drop_append, List.drop_eq_nil_of_le (by rw [hsl]; exact h1), List.nil_append, hsl]; exact e2
        · rw [sgL_cons, List.length_append, hsl]; omega
      · rw [ble_no h1] at h'; cases h'
/-- Another value in a part's place. -/
noncomputable def sgSet (s : List (Nat × Value)) : Nat → Nat → Value → Option (List (Nat × Value)) := List.rec (motive := fun _ => Nat → Nat → Value → Option (List (Nat × Value))) (fun _ _ _ => none) (fun p s ih off sz v => bif Nat.beq off 0 then (bif Nat.beq p.1 sz then some ((sz, v) :: s) else none) else bif Nat.ble p.1 off then (ih (off - p.1) sz v).map (p :: ·) else none) s
theorem sgSet_spec : ∀ (s : List (Nat × Value)) (off sz : Nat) (v : Value) (t : List (Nat × Value)), SgW s → Cv sz v → sgSet s off sz v = some t → SgW t ∧ (sgL s).take off ++ v.cells.toList ++ (sgL s).drop (off + sz) = sgL t ∧ off + sz ≤ (sgL s).length
  | [], _, _, _, _, _, _, h => by cases h
  | p :: s, off, sz, v, t, hw, hv, h => by
    have h' : (bif Nat.beq off 0 then (bif Nat.beq p.1 sz then some ((sz, v) :: s) else none) else bif Nat.ble p.1 off then (sgSet s (off - p.1) sz v).map (p :: ·) else none) = some t := h
    have hsl : p.2.cells.toList.length = p.1 := by simpa using hw.hd.s
    by_cases h0 : off = 0
    · subst h0
      rw [show Nat.beq 0 0 = true from rfl] at h'; simp only [cond_true] at h'
      by_cases h1 : p.1 = sz
      · subst h1
        simp at h'; subst h'
        refine ⟨⟨fun q hq => ?_⟩, ?_, ?_⟩
        · rcases List.mem_cons.1 hq with rfl | hq
          · exact hv
          · exact hw.tl.all q hq
        · rw [sgL_cons, sgL_cons, List.take_zero, List.nil_append, Nat.zero_add, List.drop_append, List.drop_eq_nil_of_le (by rw [hsl]; exact Nat.le_refl _), hsl]; simp
        · rw [sgL_cons, List.length_append, hsl]; omega
      · rw [beq_no h1] at h'; simp at h'
    · rw [beq_no h0] at h'
      by_cases h1 : p.1 ≤ off
      · have hb : Nat.ble p.1 off = true := by simpa using h1
        rw [hb] at h'
        simp only [cond_false, cond_true, Option.map_eq_some_iff] at h'
        obtain ⟨t', ht, rfl⟩ := h'
        obtain ⟨e1, e2, e3⟩ := sgSet_spec s (off - p.1) sz v t' hw.tl hv ht
        refine ⟨⟨fun q hq => ?_⟩, ?_, ?_⟩
        · rcases List.mem_cons.1 hq with rfl | hq
          · exact hw.hd
          · exact e1.all q hq
        · rw [sgL_cons, sgL_cons, ← e2, List.take_append, List.take_of_length_le (by rw [hsl]; exact h1), List.drop_append, List.drop_eq_nil_of_le (by rw [hsl]; omega), hsl]
          simp [show off + sz - p.1 = off - p.1 + sz by omega]
        · rw [sgL_cons, List.length_append, hsl]; omega
      · rw [ble_no h1] at h'; cases h'

/-- Where a block is in the list, and the list with other parts in it. -/
class FindB (g : Nat) (L : List Bk) (s : outParam (List (Nat × Value))) (bt : outParam TypeId) (put : outParam (List (Nat × Value) → List Bk)) : Prop where
  out : ∃ L1 L2, L = L1 ++ ⟨g, sgA s, bt⟩ :: L2 ∧ ∀ s', put s' = L1 ++ ⟨g, sgA s', bt⟩ :: L2
instance FindB.there {g : Nat} {b : Bk} {L : List Bk} {s : List (Nat × Value)} {bt : TypeId} {put : List (Nat × Value) → List Bk} [h : FindB g L s bt put] : FindB g (b :: L) s bt (fun s' => b :: put s') := ⟨by
  obtain ⟨L1, L2, rfl, h2⟩ := h.out
  exact ⟨b :: L1, L2, rfl, fun s' => by rw [h2]; rfl⟩⟩
instance FindB.here {g : Nat} {L : List Bk} {s : List (Nat × Value)} {bt : TypeId} : FindB g (⟨g, sgA s, bt⟩ :: L) s bt (fun s' => ⟨g, sgA s', bt⟩ :: L) := ⟨⟨[], L, rfl, fun _ => rfl⟩⟩
theorem FindB.mem {g : Nat} {L : List Bk} {s : List (Nat × Value)} {bt : TypeId} {put : List (Nat × Value) → List Bk} (h : FindB g L s bt put) : (⟨g, sgA s, bt⟩ : Bk) ∈ L := by
  obtain ⟨L1, L2, rfl, _⟩ := h.out; simp
/-- Where an own row is. -/
class FindR (e size : Nat) (a : Option Addr) (n c : Nat) (R : List Rw) (xs : outParam (List Value)) (put : outParam (Rw → List Rw)) : Prop where
  out : ∃ R1 R2, R = R1 ++ ⟨e, size, a, n, c, xs⟩ :: R2 ∧ ∀ r, put r = R1 ++ r :: R2
instance FindR.there {e size : Nat} {a : Option Addr} {n c : Nat} {R : List Rw} {r : Rw} {xs : List Value} {put : Rw → List Rw} [h : FindR e size a n c R xs put] : FindR e size a n c (r :: R) xs (fun q => r :: put q) := ⟨by
  obtain ⟨L1, L2, rfl, h2⟩ := h.out
  exact ⟨r :: L1, L2, rfl, fun s' => by rw [h2]; rfl⟩⟩
instance FindR.here {e size : Nat} {a : Option Addr} {n c : Nat} {R : List Rw} {xs : List Value} : FindR e size a n c (⟨e, size, a, n, c, xs⟩ :: R) xs (fun q => q :: R) := ⟨⟨[], R, rfl, fun _ => rfl⟩⟩

section
variable {P : Program} {m : List (Nat × Value)} {F : List Nat} {w0 w : World} {L : List Bk} {R : List Rw} {v : Value} {t : TypeId} {x y : Operand}
theorem range_sg {g off : Nat} {s : List (Nat × Value)} {bt : TypeId} {put : List (Nat × Value) → List Bk} (hb : FindB g L s bt put) (h : St F w0 L R w) {mid : List Value} {sz : Nat} (hm : ((sgL s).drop off).take sz = mid) (hl : mid.length = sz) : w.rangeAt g off mid :=
  h.range hb.mem (by rw [hl]; simpa [sgA] using hm)
theorem ld_sc (T : ScT P t) {g off : Nat} {s : List (Nat × Value)} {bt : TypeId} {put : List (Nat × Value) → List Bk} (hx : ev m x = some (.pointer (some ⟨g, off, none⟩))) [hb : FindB g L s bt put] [hw : SgW s] (hv : sgGet s off 1 = some v) (h1 : v.cells = #[v]) : Yl P (St F w0 L R) (.load t x) m v :=
  yl_load hx fun w hS => by
    obtain ⟨_, e2, _⟩ := sgGet_spec s off 1 v hw hv
    refine run_loadAt_cell T ?_
    have := range_sg hb hS e2 (by rw [h1]; rfl)
    rw [h1] at this
    simpa using this 0 v rfl
theorem run_load_ag {n g off : Nat} (T : AgT P t n) {mid : List Value} (hr : w.rangeAt g off mid) (hn : mid.length = n) : (Instr.loadAt t (.pointer (some ⟨g, off, none⟩))).run P w = .ok (.agg mid.toArray) w := by
  obtain ⟨⟨d, hu, hd⟩, hs⟩ := T
  exact run_loadAt_mid w g off t mid d hr hu hd (by rw [hs, hn])
theorem ld_ag {n : Nat} (T : AgT P t n) {g off : Nat} {s : List (Nat × Value)} {bt : TypeId} {put : List (Nat × Value) → List Bk} (hx : ev m x = some (.pointer (some ⟨g, off, none⟩))) [hb : FindB g L s bt put] [hw : SgW s] {cs : Array Value} (hv : sgGet s off n = some (.agg cs)) : Yl P (St F w0 L R) (.load t x) m (.agg cs) :=
  yl_load hx fun w hS => by
    obtain ⟨e1, e2, _⟩ := sgGet_spec s off n _ hw hv
    have e1' : cs.size = n := e1
    exact run_load_ag T (mid := cs.toList) (range_sg hb hS e2 (by simpa [Value.cells] using e1')) (by simpa using e1')
theorem ld_ags {n : Nat} (T : AgT P t n) {g off : Nat} {s : List (Nat × Value)} {bt : TypeId} {put : List (Nat × Value) → List Bk} (hx : ev m x = some (.pointer (some ⟨g, off, none⟩))) [hb : FindB g L s bt put] [hw : SgW s] {s' : List (Nat × Value)} (hv : sgCut s off n = some s') : Yl P (St F w0 L R) (.load t x) m (.agg (sgA s')) :=
  yl_load hx fun w hS => by
    obtain ⟨e1, e2, _⟩ := sgCut_spec s off n _ hw hv
    exact run_load_ag T (range_sg hb hS e2 e1) e1
/-- All of a block. -/
theorem ld_all {n : Nat} (T : AgT P t n) {g : Nat} {s : List (Nat × Value)} {bt : TypeId} {put : List (Nat × Value) → List Bk} (hx : ev m x = some (.pointer (some ⟨g, 0, none⟩))) [hb : FindB g L s bt put] [hw : SgW s] (hn : sgN s = n) : Yl P (St F w0 L R) (.load t x) m (.agg (sgA s)) :=
  yl_load hx fun w hS => by
    have hl := (sgL_length s hw).trans hn
    exact run_load_ag T (range_sg (mid := sgL s) hb hS (by rw [List.drop_zero, List.take_of_length_le (by omega)]) hl) hl
/-- A type's zero, part by part. -/
def ZeS (P : Program) (t : TypeId) (s : List (Nat × Value)) : Prop := ∃ z, ZeT P t z ∧ z.cells = sgA s
theorem ef_alloc {s : List (Nat × Value)} (hS : St F w0 L R w) (Z : ZeS P t s) : Ef P (.alloc t) m w (fun v w' => ∃ g, v = .pointer (some ⟨g, 0, none⟩) ∧ St F w0 (⟨g, sgA s, t⟩ :: L) R w') := fun o n a K Q ho hF h => by
  obtain ⟨z, Z, hz⟩ := Z
  exact wNewS hS Z ho hz fun g w' hs => h _ _ ⟨g, rfl, hs⟩
theorem ef_box {n : Nat} (hS : St F w0 L R w) (hx : ev m x = some v) : Ef P (.box t x) m w (fun u w' => ∃ g, u = .pointer (some ⟨g, 0, none⟩) ∧ St F w0 (⟨g, sgA [(n, v)], t⟩ :: L) R w') := fun o k a K Q ho hF h =>
  wp_box_any ho (hF.eval hx) (h _ _ ⟨_, rfl, by rw [show v.cells = sgA [(n, v)] by simp [sgA, sgL]]; exact hS.alloc (sgA [(n, v)]) t⟩)
theorem ef_boxs {s : List (Nat × Value)} (hS : St F w0 L R w) (hx : ev m x = some (.agg (sgA s))) : Ef P (.box t x) m w (fun u w' => ∃ g, u = .pointer (some ⟨g, 0, none⟩) ∧ St F w0 (⟨g, sgA s, t⟩ :: L) R w') := fun _ _ _ _ _ ho hF h =>
  wp_box_any ho (hF.eval hx) (h _ _ ⟨_, rfl, hS.alloc (sgA s) t⟩)
theorem ef_store {n : Nat} (hS : St F w0 L R w) (hi : (P.info? t).map (·.size) = some n) {g off : Nat} {s s' : List (Nat × Value)} {bt : TypeId} {put : List (Nat × Value) → List Bk} (hx : ev m x = some (.pointer (some ⟨g, off, none⟩))) (hy : ev m y = some v) [hv : Cv n v] [hb : FindB g L s bt put] [hw : SgW s] (hs : sgSet s off n v = some s') :
    Ef P (.store t x y) m w (fun _ w' => St F w0 (put s') R w') := fun o k a K Q ho hF h => by
  obtain ⟨L1, L2, rfl, h2⟩ := hb.out
  obtain ⟨_, e2, e3⟩ := sgSet_spec s off n v s' hw hv hs
  refine wp_put_blk hi ho (hS.blk ⟨g, sgA s, bt⟩ (by simp)) hv.s (by simpa [sgA] using e3) hv.one (hF.eval hx) (hF.eval hy) fun w' hg k => h _ w' ?_
  rw [h2]
  refine St.set (b := ⟨g, sgA s, bt⟩) hS ?_ k
  rw [hg]
  show some (Obj.cells ((sgL s).toArray.toList.take off ++ v.cells.toList ++ (sgL s).toArray.toList.drop (off + n)).toArray bt (0, 0)) = _
  rw [List.toList_toArray, e2]; rfl
/-- An aggregate in parts, in the place of as many cells. -/
theorem ef_stores {n : Nat} (hS : St F w0 L R w) (hi : (P.info? t).map (·.size) = some n) {g : Nat} {s s' : List (Nat × Value)} {bt : TypeId} {put : List (Nat × Value) → List Bk} (hx : ev m x = some (.pointer (some ⟨g, 0, none⟩))) (hy : ev m y = some (.agg (sgA s'))) [hb : FindB g L s bt put] [hw : SgW s] [hw' : SgW s'] (h1 : sgN s = n) (h2 : sgN s' = n) :
    Ef P (.store t x y) m w (fun _ w' => St F w0 (put s') R w') := fun o k a K Q ho hF h => by
  obtain ⟨L1, L2, rfl, h3⟩ := hb.out
  have hc := cv_sg hw'
  have hl := sgL_length s hw
  refine wp_put_blk hi ho (hS.blk ⟨g, sgA s, bt⟩ (by simp)) (v := .agg (sgA s')) (by rw [hc.s]; exact h2) (by simp [sgA]; omega) hc.one (hF.eval hx) (hF.eval hy) fun w' hg k => h _ w' ?_
  rw [h3]
  refine St.set (b := ⟨g, sgA s, bt⟩) hS ?_ k
  rw [hg]
  show some (Obj.cells ((sgL s).toArray.toList.take 0 ++ (sgL s').toArray.toList ++ (sgL s).toArray.toList.drop (0 + n)).toArray bt (0, 0)) = _
  rw [List.toList_toArray, List.toList_toArray, List.drop_eq_nil_of_le (by omega)]
  simp [sgA]
theorem ef_append {e size bytes : Nat} {i : TypeInfo} {z : Value} (hS : St F w0 L R w) (T : SlT P t e i z size bytes) {av : Option Addr} {n cv : Nat} {xs : List Value} {put : Rw → List Rw} (hx : ev m x = some (.slice av n cv)) [hr : FindR e size av n cv R xs put] {ax : Option Addr} {k c : Nat} {news : List Value} (hy : ev m y = some (.slice ax k c)) (hrd : Rd w ax k c size news)
    (h1 : ∀ u ∈ news, u.oneCell' = true) {n' : Nat} (hn' : n + k = n') (hn : n' * bytes ≤ 140737488355328 ∧ n' ≤ 9223372036854775807) {ys : List Value} (hys : xs ++ news = ys) :
    Ef P (.call { callee := .builtin .append, args := #[x, y], argTypes := #[t, t] }) m w (fun v w' => ∃ a' c', v = .slice a' n' c' ∧ St F w0 L (put ⟨e, size, a', n', c', ys⟩) w') := fun o q a K Q ho hF h => by
  subst hn' hys
  obtain ⟨R1, R2, rfl, h2⟩ := hr.out
  refine wp_append_rd T ho (hF.eval hx) (hS.row ⟨e, size, av, n, cv, xs⟩ (by simp)) (hF.eval hy) hrd h1 hn.1 hn.2 fun a' c' w' h3 h4 h5 => h _ w' ⟨a', c', rfl, ?_⟩
  rw [h2]
  exact St.grow (r := ⟨e, size, av, n, cv, xs⟩) hS h3 h4 h5
theorem ef_lit {e size bytes : Nat} {i : TypeInfo} {z : Value} (hS : St F w0 L R w) (T : SlT P t e i z size bytes) {n : Nat} {parts : Array (Nat × Operand)} {vs : List Value} (hx : evs m (parts.toList.map (·.2)) = some vs) (hi : parts.toList.map (·.1) = List.range n) (hn : n = vs.length) {s : List (Nat × Value)} (hs : (vs.map fun v => (size, v)) = s) [hw : SgW s] (hb : vs.length * size ≤ 16777216) :
    Ef P (.buildSlice t n parts) m w (fun u w' => ∃ g, u = .slice (some ⟨g, 0, none⟩) n n ∧ St F w0 (⟨g, sgA s, e⟩ :: L) R w') := fun o k a K Q ho hF h => by
  subst hs
  have hp : (parts.map fun (i, x) => (i, a.eval x)) = ((vs.zipIdx 0).map fun p => (p.2, p.1)).toArray := by
    apply Array.ext'
    rw [Array.toList_map, List.toList_toArray]
    have h1 := hF.evals hx
    have hl : parts.toList.length = vs.length := by rw [← h1]; simp
    apply List.ext_getElem
    · simp [hl]
    · intro j hj1 hj2
      simp only [List.getElem_map, List.getElem_zipIdx, Nat.zero_add]
      have hj : j < parts.toList.length := by simpa using hj1
      have e1 : (parts.toList.map (·.1))[j]'(by simpa using hj) = j := by
        have : (parts.toList.map (·.1))[j]? = some j := by rw [hi, List.getElem?_range (by rw [hn, ← hl]; exact hj)]
        rw [List.getElem?_eq_getElem (by simpa using hj)] at this
        exact Option.some.inj this
      have e2 : ((parts.toList.map (·.2)).map a.eval)[j]'(by simpa using hj) = vs[j]'(by rw [← hl]; exact hj) := by simp only [h1]
      simp only [List.getElem_map] at e1 e2
      exact Prod.ext e1 e2
  refine wp_lit_any T ho vs hn hp (fun v hv => (hw.all (size, v) (List.mem_map_of_mem hv)).s) hb (h _ _ ⟨_, rfl, ?_⟩)
  rw [show (flatV vs).toArray = sgA (vs.map fun v => (size, v)) by simp [sgA, sgL, flatV, List.flatMap_map]]
  exact hS.alloc _ e
end

/-- A field's place. -/
structure FdT (P : Program) (s : TypeId) (f o : Nat) : Prop where
  out : ∃ fs fi, P.underlying s = some (.struct fs) ∧ fs[f]? = some fi ∧ fi.offset = o ∧ ∃ i, P.info? fi.type = some i ∧ i.size ≠ 0
theorem FdT.mk' {P : Program} {s : TypeId} {f o k : Nat} {fs : Array Field} (hu : P.underlying s = some (.struct fs)) (h : (fs[f]?).map (fun fi => (fi.offset, (P.info? fi.type).map (·.size))) = some (o, some (k + 1))) : FdT P s f o := by
  cases hf : fs[f]? with
  | none => rw [hf] at h; cases h
  | some fi =>
    rw [hf] at h
    simp only [Option.map_some, Option.some.injEq, Prod.mk.injEq] at h
    cases hi : P.info? fi.type with
    | none => rw [hi] at h; simp at h
    | some i => rw [hi] at h; exact ⟨fs, fi, hu, hf, h.1, i, hi, by have := h.2; simp at this; omega⟩
/-- Where element k lies. -/
def elA (a : Option Addr) (k size : Nat) : Option Addr := a.map (·.add (k * size))
/-- Where a slice begins that is cut off at k. -/
def cutA (a : Option Addr) (k c size : Nat) : Option Addr := if c = k then a else a.map (·.add (k * size))
theorem aF_cutA (a : Option Addr) (k c size : Nat) : ∀ x ∈ aF (cutA a k c size), x ∈ aF a := aF_cut a _ _
section
variable {P : Program} {S : World → Prop} {m : List (Nat × Value)} {v : Value} {t : TypeId} {x y : Operand}
theorem fa_st {f o g off : Nat} (T : FdT P t f o) (hx : ev m x = some (.pointer (some ⟨g, off, none⟩))) : Yl P S (.fieldAddr t x f) m (.pointer (some ⟨g, off + o, none⟩)) :=
  yl_fieldAddr hx fun w => by
    obtain ⟨fs, fi, hu, hf, rfl, i, hi, hz⟩ := T.out
    have hadd : (⟨g, off, none⟩ : Addr).add fi.offset = ⟨g, off + fi.offset, none⟩ := Addr.add_mid ..
    simp [Instr.fieldAt, run_underlying hu, hf, Instr.sureAddr, fieldPlace, sizeOf, typeInfo, hi, hz, hadd]
theorem fd_sc {f o : Nat} (T : FdT P t f o) {ft : TypeId} (hft : ∀ fs fi, P.underlying t = some (.struct fs) → fs[f]? = some fi → fi.type = ft) (hs : ScT P ft) {s : List (Nat × Value)} [hw : SgW s] (hx : ev m x = some (.agg (sgA s))) (hv : sgGet s o 1 = some v) (h1 : v.cells = #[v]) : Yl P S (.field t x f) m v :=
  yl_field hx fun w => by
    obtain ⟨fs, fi, hu, hf, rfl, i, hi, hz⟩ := T.out
    obtain ⟨_, e2, _⟩ := sgGet_spec s _ 1 v hw hv
    obtain rfl := hft fs fi hu hf
    obtain ⟨⟨d, hud, hd⟩, _⟩ := hs
    have hagg : (isAgg fi.type).run P w = .ok false w := by
      unfold isAgg
      rw [Sem.run_bind, run_underlying hud w]
      cases d <;> simp_all
    have hc : (sgA s)[fi.offset]? = some v := by
      rw [h1] at e2
      have := congrArg (fun l => l[0]?) e2
      simp only [List.getElem?_take, List.getElem?_drop] at this
      simpa [sgA] using this
    simp [Instr.field, run_underlying hu, hf, asAgg, part, hagg, hc, Sem.run_bind, Sem.run_pure, Result.andThen_ok]
theorem fd_ag {f o n : Nat} (T : FdT P t f o) {ft : TypeId} (hft : ∀ fs fi, P.underlying t = some (.struct fs) → fs[f]? = some fi → fi.type = ft) (hs : AgT P ft n) {s : List (Nat × Value)} [hw : SgW s] (hx : ev m x = some (.agg (sgA s))) {cs : Array Value} (hv : sgGet s o n = some (.agg cs)) : Yl P S (.field t x f) m (.agg cs) :=
  yl_field hx fun w => by
    obtain ⟨fs, fi, hu, hf, rfl, i, hi, hz⟩ := T.out
    obtain ⟨e1, e2, e3⟩ := sgGet_spec s _ n _ hw hv
    obtain rfl := hft fs fi hu hf
    obtain ⟨⟨d, hud, hd⟩, hsz⟩ := hs
    have hagg : (isAgg fi.type).run P w = .ok true w := by
      unfold isAgg
      rw [Sem.run_bind, run_underlying hud w]
      cases d <;> simp_all
    have hn : i.size = n := by rw [hi] at hsz; simpa using hsz
    have hc : (sgA s).extract fi.offset (fi.offset + n) = cs := by
      apply Array.ext'
      rw [Array.toList_extract]
      have e2' : ((sgL s).drop fi.offset).take n = cs.toList := e2
      rw [← e2']
      simp [sgA, List.extract_eq_take_drop]
    simp [Instr.field, run_underlying hu, hf, asAgg, part, hagg, sizeOf, typeInfo, hi, hn, hc, Sem.run_bind, Sem.run_pure, Result.andThen_ok]
theorem ix_sl {e size : Nat} (hu : P.underlying t = some (.slice e)) (hs : (P.info? e).map (·.size) = some size) {a : Option Addr} {n c k : Nat} {ik : IntKind} (hx : ev m x = some (.slice a n c)) (hy : ev m y = some (.int ik (k : Int))) (hk : k < n) (hn : a = none → n = 0) : Yl P S (.indexAddr t x y) m (.pointer (elA a k size)) :=
  yl_indexAddr hx hy fun w => by
    cases a with
    | none => have := hn rfl; omega
    | some b =>
      obtain ⟨i, hi, hz⟩ := Option.map_eq_some_iff.1 hs
      simp [Instr.indexAt, asIntOf, run_underlying hu, elA, sizeOf, typeInfo, hi, hz, Sem.run_bind, Sem.run_pure, Result.andThen_ok]
      intro hh; omega
theorem ld_elH {a : Option Addr} {c k : Nat} {l : List Hsh} (T : AgT P t 32) (hx : ev m x = some (.pointer (elA a k 32))) {h : Hsh} (hk : l[k]? = some h) (hr : ∀ w, S w → Rd w a l.length c 32 (hsc l)) : Yl P S (.load t x) m (hv h) :=
  yl_load hx fun w hS => by
    have hlt := (List.getElem?_eq_some_iff.1 hk).1
    have he : l[k] = h := (List.getElem?_eq_some_iff.1 hk).2
    obtain ⟨b, off, rfl, _, hc⟩ := (hr w hS).spot (by rw [hsc_length]; omega)
    have := rd_hash hc k hlt
    rw [he] at this
    show (Instr.loadAt t (.pointer (some ((⟨b, off, none⟩ : Addr).add (k * 32))))).run P w = _
    rw [Addr.add_mid]
    exact run_load_ag T this (hcs_length h)
theorem ld_elC {a : Option Addr} {n c k : Nat} {xs : List Value} (T : ScT P t) (hx : ev m x = some (.pointer (elA a k 1))) (hk : xs[k]? = some v) (hr : ∀ w, S w → Rd w a n c 1 xs) : Yl P S (.load t x) m v :=
  yl_load hx fun w hS => by
    obtain ⟨b, rfl, hc⟩ := (hr w hS).cells k v hk
    show (Instr.loadAt t (.pointer (some (b.add (k * 1))))).run P w = _
    rw [Nat.mul_one]
    exact run_loadAt_cell T hc
theorem run_sliceAt {e size : Nat} (hu : P.underlying t = some (.slice e)) (hs : (P.info? e).map (·.size) = some size) (a : Option Addr) (n c : Nat) (lo hi : Option Value) (l h : Nat) (hl : lo = none ∧ l = 0 ∨ ∃ ik, lo = some (.int ik l)) (hh : hi = none ∧ h = n ∨ ∃ ik, hi = some (.int ik h)) (h1 : l ≤ h) (h2 : h ≤ c) (w : World) :
    (Instr.sliceAt t (.slice a n c) lo hi none).run P w = .ok (.slice (cutA a l c size) (h - l) (c - l)) w := by
  obtain ⟨i, hi', hz⟩ := Option.map_eq_some_iff.1 hs
  rcases hl with ⟨rfl, rfl⟩ | ⟨k1, rfl⟩ <;> rcases hh with ⟨rfl, rfl⟩ | ⟨k2, rfl⟩ <;>
    (simp [Instr.sliceAt, Instr.slice, Instr.sliceBounds, Instr.sliceBound, asIntOf, run_underlying hu, sizeOf, typeInfo, hi', hz, Sem.run_bind, Sem.run_pure, Result.andThen_ok, cutA] <;> (try (simp [h1, h2])) <;> (try (intro hh; omega)))
theorem sl_lo {e size : Nat} (hu : P.underlying t = some (.slice e)) (hs : (P.info? e).map (·.size) = some size) {a : Option Addr} {n c k r : Nat} {ik : IntKind} {z : Operand} (hx : ev m x = some (.slice a n c)) (hy : ev m z = some (.int ik (k : Int))) (h1 : k ≤ n ∧ n ≤ c) (hr : n - k = r) : Yl P S (.slice t x (some z) none none) m (.slice (cutA a k c size) r (c - k)) :=
  yl_slice (l := some (.int ik k)) (h := none) (k := none) hx (by show (ev m _).map some = _; rw [hy]; rfl) rfl rfl fun w => by
    rw [run_sliceAt hu hs a n c _ _ k n (.inr ⟨ik, rfl⟩) (.inl ⟨rfl, rfl⟩) h1.1 h1.2 w, hr]
theorem cutA_zero (a : Option Addr) (c size : Nat) : cutA a 0 c size = a := by
  unfold cutA
  split
  · rfl
  · cases a <;> simp [Addr.add]
theorem sl_hi {e size : Nat} (hu : P.underlying t = some (.slice e)) (hs : (P.info? e).map (·.size) = some size) {a : Option Addr} {n c k r : Nat} {ik : IntKind} {z : Operand} (hx : ev m x = some (.slice a n c)) (hy : ev m z = some (.int ik (k : Int))) (h1 : k ≤ c) (hr : k = r) : Yl P S (.slice t x none (some z) none) m (.slice a r c) :=
  yl_slice (l := none) (h := some (.int ik k)) (k := none) hx rfl (by show (ev m _).map some = _; rw [hy]; rfl) rfl fun w => by
    rw [run_sliceAt hu hs a n c _ _ 0 k (.inl ⟨rfl, rfl⟩) (.inr ⟨ik, rfl⟩) (Nat.zero_le _) h1 w, cutA_zero, Nat.sub_zero, Nat.sub_zero, hr]
theorem sl_lohi {e size : Nat} (hu : P.underlying t = some (.slice e)) (hs : (P.info? e).map (·.size) = some size) {a : Option Addr} {n c j k r : Nat} {ik il : IntKind} {y z : Operand} (hx : ev m x = some (.slice a n c)) (hy : ev m y = some (.int il (j : Int))) (hz : ev m z = some (.int ik (k : Int))) (h1 : j ≤ k ∧ k ≤ c) (hr : k - j = r) : Yl P S (.slice t x (some y) (some z) none) m (.slice (cutA a j c size) r (c - j)) :=
  yl_slice (l := some (.int il j)) (h := some (.int ik k)) (k := none) hx (by show (ev m _).map some = _; rw [hy]; rfl) (by show (ev m _).map some = _; rw [hz]; rfl) rfl fun w => by
    rw [run_sliceAt hu hs a n c _ _ j k (.inr ⟨il, rfl⟩) (.inr ⟨ik, rfl⟩) h1.1 h1.2 w, hr]
/-- An array that lies in a block, as a slice. -/
theorem sl_arr {e N : Nat} (hu : P.underlying t = some (.array N e)) (hs : (P.info? e).isSome = true) (hN : 0 < N) {p : Addr} (hx : ev m x = some (.pointer (some p))) : Yl P S (.slice t x none none none) m (.slice (some p) N N) :=
  yl_slice (l := none) (h := none) (k := none) hx rfl rfl rfl fun w => by
    cases hi : P.info? e with
    | none => rw [hi] at hs; cases hs
    | some i =>
      have hN' : N ≠ 0 := by omega
      simp [Instr.sliceAt, run_underlying hu, Instr.sureAddr, Instr.sliceBounds, sizeOf, typeInfo, hi, Sem.run_bind, Sem.run_pure, Result.andThen_ok, Addr.add]
/-- An array's literal of nothing but zeros. -/
theorem bd_zero {z : Value} {N e : Nat} (Z : ZeT P t z) (hu : P.underlying t = some (.array N e)) (he : (P.info? e).isSome = true) {cs : Array Value} (hz : z.cells = cs) : Yl P S (.build t #[]) m (.agg cs) :=
  yl_build (vs := []) rfl fun w => by
    obtain ⟨i, hi, hzz⟩ := Z
    subst hz
    cases h : P.info? e with
    | none => rw [h] at he; cases he
    | some j => simp [Instr.build, zeroValue, typeInfo, hi, hzz, run_underlying hu, sizeOf, h, Instr.fill]
theorem run_places : ∀ (fs : List Field) (w : World), (fs.all fun f => (P.info? f.type).isSome) = true → (fs.mapM fun f => do pure (f.offset, ← sizeOf f.type) : Sem (List (Nat × Nat))).run P w = .ok (fs.map fun f => (f.offset, ((P.info? f.type).map (·.size)).getD 0)) w
  | [], w, _ => by simp
  | f :: fs, w, h => by
    simp only [List.all_cons, Bool.and_eq_true] at h
    have ih := run_places fs w h.2
    cases hi : P.info? f.type with
    | none => rw [hi] at h; simp at h
    | some i =>
      rw [List.mapM_cons]
      simp [sizeOf, typeInfo, hi] at ih ⊢
      rw [ih]
      simp
/-- Parts put into their fields. -/
noncomputable def sgFill (pl : List (Nat × Nat)) (ps : List (Nat × Value)) : List (Nat × Value) → Option (List (Nat × Value)) := List.rec (motive := fun _ => List (Nat × Value) → Option (List (Nat × Value))) (fun s => some s) (fun p _ ih s => match pl[p.1]? with
  | some (o, sz) => (sgSet s o sz p.2).bind ih
  | none => none) ps
theorem fill_sg (pl : Array (Nat × Nat)) : ∀ (ps : List (Nat × Value)) (s s' : List (Nat × Value)), SgW s → (∀ p ∈ ps, ∀ q, pl[p.1]? = some q → Cv q.2 p.2) → sgFill pl.toList ps s = some s' → Instr.fill (pl[·]?) (sgA s) ps = some (sgA s')
  | [], s, s', _, _, h => by obtain rfl := Option.some.inj (show some s = some s' from h); rfl
  | (i, v) :: ps, s, s', hw, hc, h => by
    have h' : (match pl.toList[i]? with | some (o, sz) => (sgSet s o sz v).bind (sgFill pl.toList ps) | none => none) = some s' := h
    rw [Array.getElem?_toList] at h'
    rw [Instr.fill]
    cases hq : pl[i]? with
    | none => rw [hq] at h'; cases h'
    | some q =>
      obtain ⟨o, sz⟩ := q
      rw [hq] at h'
      have hcv : Cv sz v := hc (i, v) List.mem_cons_self (o, sz) hq
      cases h1 : sgSet s o sz v with
      | none => simp [h1] at h'
      | some s1 =>
        simp only [h1, Option.bind_some] at h'
        obtain ⟨e1, e2, e3⟩ := sgSet_spec s o sz v s1 hw hcv h1
        have hsz := hcv.s
        simp only [hsz, ne_eq, not_true_eq_false, decide_false, Bool.false_or, decide_eq_true_eq]
        rw [if_neg (by simp [sgA]; omega)]
        have hf : (v.cells.zipIdx.foldl (fun (cs : Array Value) (p : Value × Nat) => cs.setIfInBounds (o + p.2) p.1) (sgA s)) = sgA s1 := by
          have := put_at o v.cells.toList 0 (sgA s) (by simp [sgA, hsz]; omega)
          apply Array.ext'
          rw [← Array.foldl_toList, Array.toList_zipIdx, this]
          simp only [sgA, Nat.add_zero, ← e2]
          simp [hsz]
        refine Eq.trans (congrArg (fun X => Instr.fill (pl[·]?) X ps) hf) ?_
        exact fill_sg pl ps s1 s' e1 (fun p hp => hc p (List.mem_cons_of_mem _ hp)) h'
theorem bd_st {fs : Array Field} {s0 s : List (Nat × Value)} {parts : Array (Nat × Operand)} {vs : List Value} (hu : P.underlying t = some (.struct fs)) (hfs : (fs.toList.all fun f => (P.info? f.type).isSome) = true) (Z : ZeS P t s0) [hw : SgW s0] (hx : evs m (parts.toList.map (·.2)) = some vs)
    {pl : List (Nat × Nat)} (hpl : (fs.toList.map fun f => (f.offset, ((P.info? f.type).map (·.size)).getD 0)) = pl) {szs : List Nat} (hsz : ((parts.toList.map (·.1)).map fun i => ((pl[i]?).map (·.2)).getD 0) = szs) (hv : SgW (szs.zip vs)) (hf : sgFill pl ((parts.toList.map (·.1)).zip vs) s0 = some s) :
    Yl P S (.build t parts) m (.agg (sgA s)) :=
  yl_build hx fun w => by
    obtain ⟨z, ⟨i, hi, hzz⟩, hz⟩ := Z
    have hr := run_places fs.toList w hfs
    rw [hpl] at hr
    have hfill := fill_sg pl.toArray ((parts.toList.map (·.1)).zip vs) s0 s hw (by
      intro p hp q hq
      obtain ⟨j, hj⟩ := List.getElem?_of_mem hp
      rw [List.getElem?_zip_eq_some] at hj
      have hq' : pl[p.1]? = some q := by simpa using hq
      refine hv.all (q.2, p.2) (List.mem_of_getElem? (i := j) ?_)
      rw [List.getElem?_zip_eq_some]
      refine ⟨?_, hj.2⟩
      rw [← hsz, List.getElem?_map, hj.1]
      simp [hq']) (by simpa using hf)
    have hm : (fs.mapM fun f => do pure (f.offset, ← sizeOf f.type) : Sem (Array (Nat × Nat))).run P w = .ok pl.toArray w := by
      rw [Array.mapM_eq_mapM_toList, Sem.run_map, hr]
      rfl
    have hzv : (zeroValue t).run P w = .ok z w := by simp [zeroValue, typeInfo, hi, hzz]
    simp only [Instr.build, Sem.run_bind, hzv, run_underlying hu, Result.andThen_ok, hz]
    rw [hm]
    simp only [Result.andThen_ok]
    rw [hfill]
    simp

/-! ### The end of a call -/
def RVal (P : Program) (S : World → Prop) (m : List (Nat × Value)) : ResultVar → Value → Prop
  | .tmp t, v => lk t m = some v
  | .cell t ty, v => (∃ p, lk t m = some (.pointer (some p))) ∧ Yl P S (.load ty (.tmp t)) m v
theorem rv_tmp {n : Nat} {a : Act} (hF : Fr m n a) {k : Nat} (h : RVal P S m (.tmp k) v) : a.tmps[k]?.getD undef = v := by
  rw [hF.val k v h]; rfl
theorem rv_cell {n : Nat} {a : Act} {w : World} (hF : Fr m n a) (hS : S w) {q ty : Nat} (h : RVal P S m (.cell q ty) v) : ∃ p, a.tmps[q]?.getD undef = .pointer (some p) ∧ (loadVar ty p).run P w = .ok v w := by
  obtain ⟨⟨p, hp⟩, hy⟩ := h
  refine ⟨p, by rw [hF.val q _ hp]; rfl, ?_⟩
  have h1 := hF.eval (x := .tmp q) hp
  have h2 := hy ⟨none, .load ty (.tmp q), 0, "", #[], none⟩ n a w rfl hF hS
  unfold execOp at h2
  simp only [h1, Instr.loadAt, Instr.sureAddr, Sem.run_bind, Sem.run_pure, Result.andThen_ok] at h2
  cases hq : (loadVar ty p).run P w with
  | ok u w' => rw [hq] at h2; simp at h2; rw [h2.1, h2.2]
  | halt u w' => rw [hq] at h2; simp at h2
theorem rt0 {fn : Func} {R : Ending → World → Prop} {n : Nat} {a : Act} {w : World} (hf : fn.results = #[]) (hF : Fr m n a) (hR : R (.returned (.tuple #[])) w) : bodyPost P fn R .ret a w :=
  bodyPost_ret (by simp [results, hf]) hF.defers hR
theorem rt1 {fn : Func} {R : Ending → World → Prop} {n : Nat} {a : Act} {w : World} {r : ResultVar} (hf : fn.results = #[r]) (hF : Fr m n a) (hS : S w) (h : RVal P S m r v) (hR : R (.returned v) w) : bodyPost P fn R .ret a w :=
  bodyPost_ret (by
    cases r with
    | tmp k => simp [results, hf, rv_tmp hF h]
    | cell q ty => obtain ⟨p, h1, h2⟩ := rv_cell hF hS h; simp [results, hf, h1, asAddr, h2]) hF.defers hR
theorem rt2 {fn : Func} {R : Ending → World → Prop} {n : Nat} {a : Act} {w : World} {r1 r2 : ResultVar} {v1 v2 : Value} (hf : fn.results = #[r1, r2]) (hF : Fr m n a) (hS : S w) (h1 : RVal P S m r1 v1) (h2 : RVal P S m r2 v2) (hR : R (.returned (.tuple #[v1, v2])) w) : bodyPost P fn R .ret a w :=
  bodyPost_ret (by
    cases r1 with
    | tmp k =>
      cases r2 with
      | tmp k2 => simp [results, hf, rv_tmp hF h1, rv_tmp hF h2]
      | cell q ty => obtain ⟨p, e1, e2⟩ := rv_cell hF hS h2; simp [results, hf, rv_tmp hF h1, e1, asAddr, e2]
    | cell q ty =>
      obtain ⟨p, e1, e2⟩ := rv_cell hF hS h1
      cases r2 with
      | tmp k2 => simp [results, hf, e1, asAddr, e2, rv_tmp hF h2]
      | cell q2 ty2 => obtain ⟨p2, f1, f2⟩ := rv_cell hF hS h2; simp [results, hf, e1, asAddr, e2, f1, f2]) hF.defers hR
theorem rt3 {fn : Func} {R : Ending → World → Prop} {n : Nat} {a : Act} {w : World} {r1 r2 r3 : ResultVar} {v1 v2 v3 : Value} (hf : fn.results = #[r1, r2, r3]) (hF : Fr m n a) (hS : S w) (h1 : RVal P S m r1 v1) (h2 : RVal P S m r2 v2) (h3 : RVal P S m r3 v3) (hR : R (.returned (.tuple #[v1, v2, v3])) w) : bodyPost P fn R .ret a w :=
  bodyPost_ret (by
    cases r1 with
    | tmp k =>
      cases r2 with
      | tmp k2 => 
        cases r3 with
        | tmp k3 => simp [results, hf, rv_tmp hF h1, rv_tmp hF h2, rv_tmp hF h3]
        | cell q ty => obtain ⟨p, e1, e2⟩ := rv_cell hF hS h3; simp [results, hf, rv_tmp hF h1, rv_tmp hF h2, e1, asAddr, e2]
      | cell q ty =>
        obtain ⟨p, e1, e2⟩ := rv_cell hF hS h2
        cases r3 with
        | tmp k3 => simp [results, hf, rv_tmp hF h1, e1, asAddr, e2, rv_tmp hF h3]
        | cell q ty => obtain ⟨p, f1, f2⟩ := rv_cell hF hS h3; simp [results, hf, rv_tmp hF h1, e1, asAddr, e2, f1, f2]
    | cell q ty =>
      obtain ⟨p, e1, e2⟩ := rv_cell hF hS h1
      cases r2 with
      | tmp k2 =>
        cases r3 with
        | tmp k3 => simp [results, hf, e1, asAddr, e2, rv_tmp hF h2, rv_tmp hF h3]
        | cell q ty => obtain ⟨p, f1, f2⟩ := rv_cell hF hS h3; simp [results, hf, e1, asAddr, e2, rv_tmp hF h2, f1, f2]
      | cell q2 ty2 =>
        obtain ⟨p2, f1, f2⟩ := rv_cell hF hS h2
        cases r3 with
        | tmp k3 => simp [results, hf, e1, asAddr, e2, f1, f2, rv_tmp hF h3]
        | cell q ty => obtain ⟨p, g1, g2⟩ := rv_cell hF hS h3; simp [results, hf, e1, asAddr, e2, f1, f2, g1, g2]) hF.defers hR
theorem bp_n {fn : Func} {R : Ending → World → Prop} {a : Act} {w : World} (h : bodyPost P fn R .ret a w) : bodyPost P fn R .normal a w := h
end

section
variable {P : Program} {l : List Oper} {Q : Exit → Act → World → Prop} {S : World → Prop} {K : Act → World → Prop} {m : List (Nat × Value)} {n d k i fuel : Nat} {a : Act} {w : World} {op : Op} {ty : TypeId} {pos : String} {af : Array Edge} {g : Option (Nat × Bool)} {v : Value} {listed : Array Bool}
theorem dx_region {T : World → Prop} {id : Nat} (k : Nat) (hm : P.follows .mixedOrders = true) (hT : T w.drew) (hS : ∀ w, T w → S w) (h : ∀ w, T w → wpAnyK P .any l.toArray Q S k l.length (Array.replicate l.length false) a w) : (Code.region id l.toArray true).wp P Q a w :=
  regionK k S hm (hS _ hT) fun _ => by simpa using h _ hT
theorem opl (ho : l[i]? = some ⟨some d, op, ty, pos, af, g⟩) : l.toArray[i]? = some ⟨some d, op, ty, pos, af, g⟩ := by simpa using ho
/-- An operation that reads, taken ahead of the others; number k waits for it. -/
theorem dx_k (hF : Fr m n a) (ho : l[i]? = some ⟨some d, op, ty, pos, af, g⟩) (hs : Region.noSelect l.toArray = true) (hf : Region.free .any l.toArray listed i = true) (hr : (Region.ready .any l.toArray listed).contains i = true) (hk : waitsB .any l.toArray k i = true) (hl : listed.getD k false = false)
    (hQ : ∀ c a w, Q (.panic c) (a.put (some d) v) w → Q (.panic c) a w) (hS : S w) (hy : Yl P S op m v) (hd : Nat.blt d n = true) (hg : want l m g = some true) (h : ∀ a', Fr ((d, v) :: m) n a' → wpAnyK P .any l.toArray Q S k fuel (listed.setIfInBounds i true) a' w) : wpAnyK P .any l.toArray Q S k (fuel + 1) listed a w :=
  takeK (opl ho) rfl hs hf hr hk hl hQ hS (.inl ⟨wanted_of hF hg, fun w' h' => hy _ n a w' rfl hF h'⟩) (h _ (hF.put hd v))
/-- One that yields in whatever world. -/
theorem dx_p (hF : Fr m n a) (ho : l[i]? = some ⟨some d, op, ty, pos, af, g⟩) (hs : Region.noSelect l.toArray = true) (hf : Region.free .any l.toArray listed i = true) (hr : (Region.ready .any l.toArray listed).contains i = true) (hik : i ≠ k)
    (hQ : ∀ c a w, Q (.panic c) (a.put (some d) v) w → Q (.panic c) a w) (hS : listed.getD k false = false → S w) (hy : Yl P (fun _ => True) op m v) (hd : Nat.blt d n = true) (hg : want l m g = some true) (h : ∀ a', Fr ((d, v) :: m) n a' → wpAnyK P .any l.toArray Q S k fuel (listed.setIfInBounds i true) a' w) : wpAnyK P .any l.toArray Q S k (fuel + 1) listed a w :=
  takeP (opl ho) rfl hs hf hr hik hQ hS (.inl ⟨wanted_of hF hg, fun w' _ => hy _ n a w' rfl hF trivial⟩) (h _ (hF.put hd v))
/-- One whose guard says no. -/
theorem dx_off (hF : Fr m n a) (ho : l[i]? = some ⟨some d, op, ty, pos, af, g⟩) (hs : Region.noSelect l.toArray = true) (hf : Region.free .any l.toArray listed i = true) (hr : (Region.ready .any l.toArray listed).contains i = true) (hik : i ≠ k)
    (hQ : ∀ c a w, Q (.panic c) (a.put (some d) undef) w → Q (.panic c) a w) (hS : listed.getD k false = false → S w) (hd : Nat.blt d n = true) (hg : want l m g = some false) (h : ∀ a', Fr ((d, undef) :: m) n a' → wpAnyK P .any l.toArray Q S k fuel (listed.setIfInBounds i true) a' w) : wpAnyK P .any l.toArray Q S k (fuel + 1) listed a w :=
  takeP (opl ho) rfl hs hf hr hik hQ hS (.inr ⟨wanted_of hF hg, rfl⟩) (h _ (hF.put hd undef))
theorem dx_one (hr : Region.ready .any l.toArray listed = [i]) (h : wpOp P l.toArray Q i (fun a' w' => ((listed.setIfInBounds i true).getD k false = false → S w') ∧ wpAnyK P .any l.toArray Q S k fuel (listed.setIfInBounds i true) a' w') a w) : wpAnyK P .any l.toArray Q S k (fuel + 1) listed a w := by
  refine ⟨fun h0 => (by rw [hr] at h0; cases h0), fun j hj => ?_⟩
  rw [hr] at hj
  simp only [List.mem_singleton] at hj
  subst hj
  exact h
theorem dx_two {j : Nat} (hr : Region.ready .any l.toArray listed = [i, j]) (h : wpOp P l.toArray Q i (fun a' w' => ((listed.setIfInBounds i true).getD k false = false → S w') ∧ wpAnyK P .any l.toArray Q S k fuel (listed.setIfInBounds i true) a' w') a w)
    (h' : wpOp P l.toArray Q j (fun a' w' => ((listed.setIfInBounds j true).getD k false = false → S w') ∧ wpAnyK P .any l.toArray Q S k fuel (listed.setIfInBounds j true) a' w') a w) : wpAnyK P .any l.toArray Q S k (fuel + 1) listed a w := by
  refine ⟨fun h0 => (by rw [hr] at h0; cases h0), fun q hq => ?_⟩
  rw [hr] at hq
  simp only [List.mem_cons, List.not_mem_nil, or_false] at hq
  rcases hq with rfl | rfl
  · exact h
  · exact h'
theorem dx_three {j j2 : Nat} (hr : Region.ready .any l.toArray listed = [i, j, j2]) (h : wpOp P l.toArray Q i (fun a' w' => ((listed.setIfInBounds i true).getD k false = false → S w') ∧ wpAnyK P .any l.toArray Q S k fuel (listed.setIfInBounds i true) a' w') a w)
    (h' : wpOp P l.toArray Q j (fun a' w' => ((listed.setIfInBounds j true).getD k false = false → S w') ∧ wpAnyK P .any l.toArray Q S k fuel (listed.setIfInBounds j true) a' w') a w)
    (h2 : wpOp P l.toArray Q j2 (fun a' w' => ((listed.setIfInBounds j2 true).getD k false = false → S w') ∧ wpAnyK P .any l.toArray Q S k fuel (listed.setIfInBounds j2 true) a' w') a w) : wpAnyK P .any l.toArray Q S k (fuel + 1) listed a w := by
  refine ⟨fun h0 => (by rw [hr] at h0; cases h0), fun q hq => ?_⟩
  rw [hr] at hq
  simp only [List.mem_cons, List.not_mem_nil, or_false] at hq
  rcases hq with rfl | rfl | rfl
  · exact h
  · exact h'
  · exact h2
theorem dx_four {j j2 j3 : Nat} (hr : Region.ready .any l.toArray listed = [i, j, j2, j3]) (h : wpOp P l.toArray Q i (fun a' w' => ((listed.setIfInBounds i true).getD k false = false → S w') ∧ wpAnyK P .any l.toArray Q S k fuel (listed.setIfInBounds i true) a' w') a w)
    (h' : wpOp P l.toArray Q j (fun a' w' => ((listed.setIfInBounds j true).getD k false = false → S w') ∧ wpAnyK P .any l.toArray Q S k fuel (listed.setIfInBounds j true) a' w') a w)
    (h2 : wpOp P l.toArray Q j2 (fun a' w' => ((listed.setIfInBounds j2 true).getD k false = false → S w') ∧ wpAnyK P .any l.toArray Q S k fuel (listed.setIfInBounds j2 true) a' w') a w)
    (h3 : wpOp P l.toArray Q j3 (fun a' w' => ((listed.setIfInBounds j3 true).getD k false = false → S w') ∧ wpAnyK P .any l.toArray Q S k fuel (listed.setIfInBounds j3 true) a' w') a w) : wpAnyK P .any l.toArray Q S k (fuel + 1) listed a w := by
  refine ⟨fun h0 => (by rw [hr] at h0; cases h0), fun q hq => ?_⟩
  rw [hr] at hq
  simp only [List.mem_cons, List.not_mem_nil, or_false] at hq
  rcases hq with rfl | rfl | rfl | rfl
  · exact h
  · exact h'
  · exact h2
  · exact h3
theorem op_ef {R : Value → World → Prop} (hF : Fr m n a) (ho : l[i]? = some ⟨some d, op, ty, pos, af, g⟩) (hd : Nat.blt d n = true) (hg : want l m g = some true) (he : Ef P op m w R) (h : ∀ v w' a', R v w' → Fr ((d, v) :: m) n a' → K a' w') : wpOp P l.toArray Q i K a w := by
  unfold wpOp
  rw [opl ho]
  show (if Region.wanted _ (yielded l.toArray a.tmps) = true then _ else _)
  rw [if_pos (wanted_of (l := l) (c := true) hF hg)]
  exact .inl (he _ n a K Q rfl hF fun v w' hR => h v w' _ hR (hF.put hd v))
theorem op_ef0 {R : Value → World → Prop} (hF : Fr m n a) (ho : l[i]? = some ⟨none, op, ty, pos, af, g⟩) (hg : want l m g = some true) (he : Ef P op m w R) (h : ∀ v w', R v w' → K a w') : wpOp P l.toArray Q i K a w := by
  unfold wpOp
  rw [show l.toArray[i]? = _ by simpa using ho]
  show (if Region.wanted _ (yielded l.toArray a.tmps) = true then _ else _)
  rw [if_pos (wanted_of (l := l) (c := true) hF hg)]
  exact .inl (he _ n a K Q rfl hF fun v w' hR => h v w' hR)
theorem op_y (hF : Fr m n a) (ho : l[i]? = some ⟨some d, op, ty, pos, af, g⟩) (hd : Nat.blt d n = true) (hg : want l m g = some true) (hS : S w) (hy : Yl P S op m v) (h : ∀ a', Fr ((d, v) :: m) n a' → K a' w) : wpOp P l.toArray Q i K a w := by
  unfold wpOp
  rw [opl ho]
  show (if Region.wanted _ (yielded l.toArray a.tmps) = true then _ else _)
  rw [if_pos (wanted_of (l := l) (c := true) hF hg)]
  refine .inl ?_
  unfold Oper.wp
  rw [hy _ n a w rfl hF hS]
  exact h _ (hF.put hd v)
theorem op_off (hF : Fr m n a) (ho : l[i]? = some ⟨some d, op, ty, pos, af, g⟩) (hd : Nat.blt d n = true) (hg : want l m g = some false) (h : ∀ a', Fr ((d, undef) :: m) n a' → K a' w) : wpOp P l.toArray Q i K a w := by
  unfold wpOp
  rw [opl ho]
  show (if Region.wanted _ (yielded l.toArray a.tmps) = true then _ else _)
  rw [if_neg (by rw [wanted_of (l := l) (c := false) hF hg]; simp)]
  exact h _ (hF.put hd undef)
theorem sx_call {rest : List Oper} {f : FuncId} {fn : Func} {xs : Array Operand} {ts : Array TypeId} {vs : List Value} {R : Ending → World → Prop} (hF : Fr m n a) (hf : P.funcs[f]? = some fn) (hn : (fn.name == "runtime.NumGoroutine") = false) (hb : fn.body.isNone = false) (hx : evs m xs.toList = some vs) (hc : Calls P f vs.toArray w R) (hd : Nat.blt d n = true) (hg : want l m g = some true)
    (h : ∀ e w', R e w' → ∃ v, e = .returned v ∧ ∀ a', Fr ((d, v) :: m) n a' → wpList P l.toArray Q rest a' w') : wpList P l.toArray Q (⟨some d, .call { callee := .value (.func f), args := xs, argTypes := ts }, ty, pos, af, g⟩ :: rest) a w :=
  sx_ef hF (ef_call hf hn hb hx hc (R' := fun v w' => ∀ a', Fr ((d, v) :: m) n a' → wpList P l.toArray Q rest a' w') h) hd hg fun _ _ _ hR hF' => hR _ hF'
theorem sx_callv {rest : List Oper} {x : Operand} {cap : List Value} {f : FuncId} {fn : Func} {xs : Array Operand} {ts : Array TypeId} {vs : List Value} {R : Ending → World → Prop} (hF : Fr m n a) (hv : ev m x = some (.func (.func f) #[] cap.toArray)) (hf : P.funcs[f]? = some fn) (hn : (fn.name == "runtime.NumGoroutine") = false) (hb : fn.body.isNone = false) (hx : evs m xs.toList = some vs) (hc : Calls P f (vs ++ cap).toArray w R) (hd : Nat.blt d n = true) (hg : want l m g = some true)
    (h : ∀ e w', R e w' → ∃ v, e = .returned v ∧ ∀ a', Fr ((d, v) :: m) n a' → wpList P l.toArray Q rest a' w') : wpList P l.toArray Q (⟨some d, .call { callee := .value x, args := xs, argTypes := ts }, ty, pos, af, g⟩ :: rest) a w :=
  sx_ef hF (ef_callv hv hf hn hb hx hc (R' := fun v w' => ∀ a', Fr ((d, v) :: m) n a' → wpList P l.toArray Q rest a' w') h) hd hg fun _ _ _ hR hF' => hR _ hF'
theorem sx_call0 {rest : List Oper} {f : FuncId} {fn : Func} {xs : Array Operand} {ts : Array TypeId} {vs : List Value} {R : Ending → World → Prop} (hF : Fr m n a) (hf : P.funcs[f]? = some fn) (hn : (fn.name == "runtime.NumGoroutine") = false) (hb : fn.body.isNone = false) (hx : evs m xs.toList = some vs) (hc : Calls P f vs.toArray w R) (hg : want l m g = some true)
    (h : ∀ e w', R e w' → ∃ v, e = .returned v ∧ wpList P l.toArray Q rest a w') : wpList P l.toArray Q (⟨none, .call { callee := .value (.func f), args := xs, argTypes := ts }, ty, pos, af, g⟩ :: rest) a w :=
  sx_ef0 hF (ef_call hf hn hb hx hc (R' := fun _ w' => wpList P l.toArray Q rest a w') h) hg fun _ _ hR => hR
theorem op_call {f : FuncId} {fn : Func} {xs : Array Operand} {ts : Array TypeId} {vs : List Value} {R : Ending → World → Prop} (hF : Fr m n a) (ho : l[i]? = some ⟨some d, .call { callee := .value (.func f), args := xs, argTypes := ts }, ty, pos, af, g⟩) (hf : P.funcs[f]? = some fn) (hn : (fn.name == "runtime.NumGoroutine") = false) (hb : fn.body.isNone = false) (hx : evs m xs.toList = some vs) (hc : Calls P f vs.toArray w R) (hd : Nat.blt d n = true) (hg : want l m g = some true)
    (h : ∀ e w', R e w' → ∃ v, e = .returned v ∧ ∀ a', Fr ((d, v) :: m) n a' → K a' w') : wpOp P l.toArray Q i K a w :=
  op_ef hF ho hd hg (ef_call hf hn hb hx hc (R' := fun v w' => ∀ a', Fr ((d, v) :: m) n a' → K a' w') h) fun _ _ _ hR hF' => hR _ hF'
theorem dx_done (hr : Region.ready .any l.toArray listed = []) (h : Q .normal a w) : wpAnyK P .any l.toArray Q S k fuel listed a w := doneK hr h fuel
end

section
variable {S : World → Prop} {m : List (Nat × Value)} {x y : Operand}
theorem Tryd.run_eqH (w : World) (xo yo : Operand) (p q : Hsh) : (do eqGuard .eql 24 xo yo (hv p) (hv q); binOp .eql 24 (hv p) (hv q) : Sem Value).run Tryd.prog w = .ok (.bool (decide (p = q))) w := by
  have h := Tryd.equalHash w p q
  have hg : Tryd.prog.eqGuardType Tryd.prog.depth 24 = false := Tryd.eqGuardType24
  simp [eqGuard, binOp, Op.equal, Op.maxDepth, hg, h]
theorem Tryd.run_neH (w : World) (xo yo : Operand) (p q : Hsh) : (do eqGuard .neq 24 xo yo (hv p) (hv q); binOp .neq 24 (hv p) (hv q) : Sem Value).run Tryd.prog w = .ok (.bool (!decide (p = q))) w := by
  have h := Tryd.equalHash w p q
  have hg : Tryd.prog.eqGuardType Tryd.prog.depth 24 = false := Tryd.eqGuardType24
  simp [eqGuard, binOp, Op.equal, Op.maxDepth, hg, h]
theorem Tryd.yl_eqH {p q : Hsh} {b : Bool} (hx : ev m x = some (hv p)) (hy : ev m y = some (hv q)) (h : decide (p = q) = b) : Yl Tryd.prog S (.binOp .eql 24 x y 24) m (.bool b) :=
  yl_bin hx hy fun w _ => by rw [← h]; exact Tryd.run_eqH w x y p q
theorem Tryd.yl_neH {p q : Hsh} {b : Bool} (hx : ev m x = some (hv p)) (hy : ev m y = some (hv q)) (h : decide (p ≠ q) = b) : Yl Tryd.prog S (.binOp .neq 24 x y 24) m (.bool b) :=
  yl_bin hx hy fun w _ => by rw [← h, show decide (p ≠ q) = !decide (p = q) by simp]; exact Tryd.run_neH w x y p q
end
section
variable {P : Program} {S : World → Prop} {m : List (Nat × Value)} {F : List Nat} {w0 w : World} {L : List Bk} {R : List Rw} {x y : Operand} {xt yt : TypeId}
theorem Rd.nil0 {a : Option Addr} {n c size : Nat} {xs : List Value} (h : Rd w a n c size xs) (ha : a = none) : n = 0 := by have := h.nil ha; have := h.le; omega
theorem yl_quoN {p q : Nat} (hx : ev m x = some (.int .i64 (p : Int))) (hy : ev m y = some (.int .i64 (q : Int))) (hq : q ≠ 0) (hp : p ≤ 9223372036854775807) : Yl P S (.binOp .quo xt x y yt) m (.int .i64 ((p / q : Nat) : Int)) :=
  (yl_quo hx hy (by omega)).to (i64w (by rw [Int.ofNat_tdiv]) (by generalize p / q = r; omega) (by have := Nat.div_le_self p q; generalize p / q = r at *; omega))
theorem yl_remN {p q : Nat} (hx : ev m x = some (.int .i64 (p : Int))) (hy : ev m y = some (.int .i64 (q : Int))) (hq : q ≠ 0) : Yl P S (.binOp .rem xt x y yt) m (.int .i64 ((p % q : Nat) : Int)) :=
  (yl_rem hx hy (by omega)).to (to_int (by rw [Int.ofNat_tmod]))
theorem yl_eqB {t : TypeId} (hu : P.underlying t = some .bool) {p q b : Bool} (hx : ev m x = some (.bool p)) (hy : ev m y = some (.bool q)) (h : decide (p = q) = b) : Yl P S (.binOp .eql t x y t) m (.bool b) :=
  yl_bin hx hy fun w _ => by
    rw [← h]
    have h1 := run_equal_bool (P := P) w t p q hu
    have h2 : (p == q) = decide (p = q) := by cases p <;> cases q <;> rfl
    simp [eqGuard, binOp, h1, h2]
theorem St.row0 {e size n c : Nat} {a : Option Addr} {xs : List Value} (h : St F w0 L (⟨e, size, a, n, c, xs⟩ :: R) w) : Rd w a n c size xs := own_rd (h.row _ List.mem_cons_self)
theorem St.row1 {e size n c : Nat} {a : Option Addr} {xs : List Value} {r : Rw} (h : St F w0 L (r :: ⟨e, size, a, n, c, xs⟩ :: R) w) : Rd w a n c size xs := own_rd (h.row _ (List.mem_cons_of_mem _ List.mem_cons_self))
theorem St.row2 {e size n c : Nat} {a : Option Addr} {xs : List Value} {r r' : Rw} (h : St F w0 L (r :: r' :: ⟨e, size, a, n, c, xs⟩ :: R) w) : Rd w a n c size xs := own_rd (h.row _ (List.mem_cons_of_mem _ (List.mem_cons_of_mem _ List.mem_cons_self)))
theorem Rd.lim {n c size : Nat} {a : Option Addr} {xs : List Value} (h : Rd w a n c size xs) : n ≤ c ∧ c ≤ 9223372036854775807 := ⟨h.le, h.max⟩
theorem own_cut {w : World} {base : Nat} {e : TypeId} {size : Nat} {a : Option Addr} {n c : Nat} {xs : List Value} (h : w.ownsRow base e size (.slice a n c) n xs) (m : Nat) (hm : m ≤ n) :
    w.ownsRow base e size (.slice a m c) m (xs.take (m * size)) := by
  obtain ⟨hl, h⟩ := h
  refine ⟨?_, ?_⟩
  · rw [List.length_take, hl]; exact Nat.min_eq_left (Nat.mul_le_mul_right _ hm)
  · rcases h with ⟨hv, hn⟩ | ⟨g, cap, cur, hv, hg, hb, hc, hm2, hs, ht⟩
    · subst hn
      obtain rfl : m = 0 := by omega
      exact .inl ⟨hv, rfl⟩
    · simp only [Value.slice.injEq] at hv
      obtain ⟨rfl, _, rfl⟩ := hv
      refine .inr ⟨g, c, cur, rfl, hg, hb, by omega, hm2, hs, ?_⟩
      rw [← ht, List.take_take, Nat.min_eq_left (Nat.mul_le_mul_right _ hm)]
/-- An own row, cut off. -/
theorem St.cutRow {e size n c : Nat} {a : Option Addr} {xs : List Value} {put : Rw → List Rw} (h : St F w0 L R w) [hr : FindR e size a n c R xs put] {m : Nat} (hm : m ≤ n) {ys : List Value} (hys : xs.take (m * size) = ys) : St F w0 L (put ⟨e, size, a, m, c, ys⟩) w := by
  obtain ⟨R1, R2, rfl, h2⟩ := hr.out
  subst hys
  rw [h2]
  have hi : ids L (R1 ++ ⟨e, size, a, m, c, xs.take (m * size)⟩ :: R2) = ids L (R1 ++ ⟨e, size, a, n, c, xs⟩ :: R2) := by simp [ids]
  refine ⟨h.kp, h.blk, fun r hr => ?_, by rw [hi]; exact h.new, by rw [hi]; exact h.nd⟩
  simp only [List.mem_append, List.mem_cons] at hr
  rcases hr with hr | rfl | hr
  · exact h.row r (by simp [hr])
  · exact own_cut (h.row ⟨e, size, a, n, c, xs⟩ (by simp)) m hm
  · exact h.row r (by simp [hr])
theorem hsc_cut (s : List Hsh) (m : Nat) : (hsc s).take (m * 32) = hsc (s.take m) := by
  induction s generalizing m with
  | nil => simp [hsc]
  | cons x s ih =>
    cases m with
    | zero => simp [hsc]
    | succ m =>
      rw [show hsc (x :: s) = hcs x ++ hsc s by simp [hsc], show (m + 1) * 32 = 32 + m * 32 by omega, List.take_append, List.take_of_length_le (by rw [hcs_length]; omega), hcs_length, show 32 + m * 32 - 32 = m * 32 by omega, ih]
      simp [hsc]
theorem St.cutH {e c : Nat} {a : Option Addr} {s : List Hsh} {put : Rw → List Rw} (h : St F w0 L R w) [hr : FindR e 32 a s.length c R (hsc s) put] {m : Nat} (hm : m ≤ s.length) : St F w0 L (put ⟨e, 32, a, (s.take m).length, c, hsc (s.take m)⟩) w := by
  rw [show (s.take m).length = m by rw [List.length_take]; omega]
  exact h.cutRow hm (hsc_cut s m)
theorem Rd.takeH {w : World} {a : Option Addr} {c : Nat} {l : List Hsh} (h : Rd w a l.length c 32 (hsc l)) (m : Nat) (hm : m ≤ l.length) : Rd w a (l.take m).length c 32 (hsc (l.take m)) := by
  have := h.take m c hm (by have := h.le; omega) (Nat.le_refl _)
  rw [hsc_cut] at this
  rwa [show (l.take m).length = m by rw [List.length_take]; omega]
theorem hsc_drp (s : List Hsh) (m : Nat) : (hsc s).drop (m * 32) = hsc (s.drop m) := by
  induction s generalizing m with
  | nil => simp [hsc]
  | cons x s ih =>
    cases m with
    | zero => simp [hsc]
    | succ m =>
      rw [show hsc (x :: s) = hcs x ++ hsc s by simp [hsc], show (m + 1) * 32 = 32 + m * 32 by omega, List.drop_append, List.drop_eq_nil_of_le (by rw [hcs_length]; omega), hcs_length, show 32 + m * 32 - 32 = m * 32 by omega, ih]
      simp
theorem Rd.dropH {w : World} {a : Option Addr} {c : Nat} {l : List Hsh} (h : Rd w a l.length c 32 (hsc l)) (m : Nat) (hm : m ≤ l.length) : Rd w (cutA a m c 32) (l.drop m).length (c - m) 32 (hsc (l.drop m)) := by
  have := h.drop m hm
  rw [hsc_drp] at this
  rwa [List.length_drop]
theorem drop_at {α : Type} {l : List α} {k : Nat} {x : α} (h : l[k]? = some x) : l.drop k = x :: l.drop (k + 1) := by
  obtain ⟨hk, rfl⟩ := List.getElem?_eq_some_iff.1 h
  exact List.drop_eq_getElem_cons hk
theorem rd_sg {g : Nat} {s : List (Nat × Value)} {bt : TypeId} {put : List (Nat × Value) → List Bk} (hS : St F w0 L R w) [hb : FindB g L s bt put] [hw : SgW s] {k size : Nat} (hk : sgN s = k * size) (hm : k ≤ 9223372036854775807) : Rd w (some ⟨g, 0, none⟩) k k size (sgL s) := by
  have := rd_block (m := k) (size := size) (hS.blk _ hb.mem) (by simpa [sgA] using (sgL_length s hw).trans hk) hm
  simpa [sgA] using this
theorem ef_append1 {t e size bytes : Nat} {i : TypeInfo} {z : Value} (hS : St F w0 L R w) (T : SlT P t e i z size bytes) {av : Option Addr} {n cv : Nat} {xs : List Value} {put : Rw → List Rw} (hx : ev m x = some (.slice av n cv)) [hr : FindR e size av n cv R xs put] {g k : Nat} (hy : ev m y = some (.slice (some ⟨g, 0, none⟩) k k)) {s : List (Nat × Value)} {bt : TypeId} {putb : List (Nat × Value) → List Bk} [hb : FindB g L s bt putb] [hw : SgW s]
    (hk : sgN s = k * size) {n' : Nat} (hn' : n + k = n') (hn : n' * bytes ≤ 140737488355328 ∧ n' ≤ 9223372036854775807) {ys : List Value} (hys : xs ++ sgL s = ys) :
    Ef P (.call { callee := .builtin .append, args := #[x, y], argTypes := #[t, t] }) m w (fun v w' => ∃ a' c', v = .slice a' n' c' ∧ St F w0 L (put ⟨e, size, a', n', c', ys⟩) w') :=
  ef_append hS T hx hy (rd_sg hS hk (by omega)) (sgL_one s hw) hn' hn hys
/-- Ways that meet again. -/
theorem dx_join {n : Nat} {a : Act} {Q : Exit → Act → World → Prop} {c : Code} (_ : Fr m n a) (_ : St F w0 L R w) (I : List (Nat × Value) → List Bk → List Rw → Act → World → Prop) (hJ : ∀ a w, I m L R a w → Q .normal a w) (h : (∀ a w, I m L R a w → Q .normal a w) → c.wp P Q a w) : c.wp P Q a w := h hJ
theorem St.perm {L' : List Bk} (h : St F w0 L R w) (hp : L'.Perm L) : St F w0 L' R w := by
  have hi : (ids L' R).Perm (ids L R) := (hp.map Bk.g).append_right _
  exact ⟨h.kp, fun b hb => h.blk b (hp.subset hb), h.row, fun x hx => h.new x (hi.subset hx), hi.nodup_iff.2 h.nd⟩
theorem St.d1 {b : Bk} (h : St F w0 (b :: L) R w) : St F w0 L R w := h.sub (List.Sublist.cons _ (List.Sublist.refl _)) (List.Sublist.refl _)
theorem St.r1 {r : Rw} (h : St F w0 L (r :: R) w) : St F w0 L R w := h.sub (List.Sublist.refl _) (List.Sublist.cons _ (List.Sublist.refl _))
theorem St.r2 {r q : Rw} (h : St F w0 L (r :: q :: R) w) : St F w0 L R w := h.r1.r1
theorem St.r3 {r q s : Rw} (h : St F w0 L (r :: q :: s :: R) w) : St F w0 L R w := h.r1.r1.r1
theorem St.r4 {r q s u : Rw} (h : St F w0 L (r :: q :: s :: u :: R) w) : St F w0 L R w := h.r1.r1.r1.r1
theorem St.d2 {b c : Bk} (h : St F w0 (b :: c :: L) R w) : St F w0 L R w := h.d1.d1
theorem St.d3 {b c d : Bk} (h : St F w0 (b :: c :: d :: L) R w) : St F w0 L R w := h.d1.d1.d1
theorem St.d4 {b c d e : Bk} (h : St F w0 (b :: c :: d :: e :: L) R w) : St F w0 L R w := h.d1.d1.d1.d1
theorem St.swap {b c : Bk} (h : St F w0 (b :: c :: L) R w) : St F w0 (c :: b :: L) R w := h.perm (List.Perm.swap b c L)
theorem St.rot {b c d : Bk} (h : St F w0 (b :: c :: d :: L) R w) : St F w0 (c :: d :: b :: L) R w := h.perm ((List.Perm.swap b d L).cons c |>.trans (List.Perm.swap b c (d :: L)))
theorem calls_st {F : List Nat} {f : FuncId} {fn : Func} {c : Code} {args : List Value} {R : Ending → World → Prop} (hf : P.funcs[f]? = some fn) (hb : fn.body = some c) {n : Nat} (hn : fn.ntmps = n) (hle : Nat.ble args.length n = true)
    (h : ∀ a w, Fr (numbered 0 args) n a → St F w0 [] [] w → c.wp P (bodyPost P fn R) a w) : Calls P f args.toArray w0 R := calls_sx hf hb hn hle fun a hF => h a w0 hF (St.start F w0)
theorem sgL_h (h : Hsh) : sgL [(32, hv h)] = hcs h := by simp [sgL, Value.cells, hvA]
theorem hsc_app1 (l : List Hsh) (h : Hsh) : hsc l ++ sgL [(32, hv h)] = hsc (l ++ [h]) := by rw [sgL_h, hsc_snoc]
theorem sgA_h (h : Hsh) : sgA [(32, hv h)] = hvA h := by simp [sgA, sgL_h, hvA]
end
/-! ### Blocks that turn into rows; what a callee leaves; literals of arrays -/
section
variable {P : Program} {S : World → Prop} {m : List (Nat × Value)} {F : List Nat} {w0 w : World} {L : List Bk} {R : List Rw} {x y : Operand}
/-- A slice's literal, as an own row. -/
theorem St.toRow {g : Nat} {s : List (Nat × Value)} {t : TypeId} (h : St F w0 (⟨g, sgA s, t⟩ :: L) R w) [hw : SgW s] {n size : Nat} (hn : sgN s = n * size) (hm : n ≤ 9223372036854775807) {ys : List Value} (hys : sgL s = ys) : St F w0 L (⟨t, size, some ⟨g, 0, none⟩, n, n, ys⟩ :: R) w := by
  subst hys
  have hl := sgL_length s hw
  have hb := h.blk ⟨g, sgA s, t⟩ List.mem_cons_self
  have hp : (ids L (⟨t, size, some ⟨g, 0, none⟩, n, n, sgL s⟩ :: R)).Perm (ids (⟨g, sgA s, t⟩ :: L) R) := by
    rw [ids_row, ids_cons]
    show (L.map Bk.g ++ ([g] ++ _)).Perm (g :: (L.map Bk.g ++ _))
    rw [List.singleton_append]
    exact List.perm_middle
  refine ⟨h.kp, fun b hb' => h.blk b (List.mem_cons_of_mem _ hb'), fun r hr => ?_, fun x hx => h.new x (hp.subset hx), hp.nodup_iff.2 h.nd⟩
  rcases List.mem_cons.1 hr with rfl | hr
  · refine ⟨by rw [hl, hn], .inr ⟨g, n, sgA s, rfl, Nat.zero_le _, hb, Nat.le_refl _, hm, ?_, ?_⟩⟩
    · simpa [sgA] using hl.trans hn
    · rw [List.take_of_length_le (by simp [sgA]; omega)]; simp [sgA]
  · exact h.row r hr
/-- What a callee has made, beside what was there. -/
theorem St.join {w1 : World} {L' : List Bk} {R' : List Rw} (h : St F w0 L R w) (k : St [] w L' R' w1) : St F w0 (L' ++ L) (R' ++ R) w1 := by
  have h1 := h.call k.kp
  have hmem : ∀ x, x ∈ ids (L' ++ L) (R' ++ R) ↔ x ∈ ids L' R' ∨ x ∈ ids L R := fun x => by
    simp only [ids, List.map_append, List.flatMap_append, List.mem_append]
    constructor
    · rintro ((h | h) | (h | h))
      · exact .inl (.inl h)
      · exact .inr (.inl h)
      · exact .inl (.inr h)
      · exact .inr (.inr h)
    · rintro ((h | h) | (h | h))
      · exact .inl (.inl h)
      · exact .inr (.inl h)
      · exact .inl (.inr h)
      · exact .inr (.inr h)
  have hp : (ids (L' ++ L) (R' ++ R)).Perm (ids L' R' ++ ids L R) := by
    simp only [ids, List.map_append, List.flatMap_append]
    generalize L'.map Bk.g = A
    generalize L.map Bk.g = B
    generalize (R'.flatMap fun r => aF r.a) = C
    generalize (R.flatMap fun r => aF r.a) = D
    rw [List.append_assoc, List.append_assoc]
    refine List.Perm.append_left A ?_
    rw [← List.append_assoc, ← List.append_assoc]
    exact List.Perm.append_right D List.perm_append_comm
  have hnew : ∀ x ∈ ids L' R', w.heap.size ≤ x := fun x hx => by
    rcases k.new x hx with h | h
    · exact h
    · cases h
  refine ⟨h1.kp, fun b hb => ?_, fun r hr => ?_, fun x hx => ?_, ?_⟩
  · rcases List.mem_append.1 hb with hb | hb
    · exact k.blk b hb
    · exact h1.blk b hb
  · rcases List.mem_append.1 hr with hr | hr
    · exact k.row r hr
    · exact h1.row r hr
  · rcases (hmem x).1 hx with hx | hx
    · exact .inl (Nat.le_trans h.kp.size (hnew x hx))
    · exact h.new x hx
  · rw [hp.nodup_iff, List.nodup_append]
    refine ⟨k.nd, h.nd, fun x hx y hy hxy => ?_⟩
    subst hxy
    have := h.lt x hy
    have := hnew x hx
    omega
theorem St.joinR {w1 : World} {R' : List Rw} (h : St F w0 L R w) (k : St [] w [] R' w1) : St F w0 L (R' ++ R) w1 := h.join k
theorem St.joinR1 {w1 : World} {r : Rw} (h : St F w0 L R w) (k : St [] w [] [r] w1) : St F w0 L (r :: R) w1 := h.join k
theorem St.joinR2 {w1 : World} {r q : Rw} (h : St F w0 L R w) (k : St [] w [] [r, q] w1) : St F w0 L (r :: q :: R) w1 := h.join k
theorem yl_cap {t u : TypeId} (hu : P.underlying t = some (.slice u)) {a : Option Addr} {n c : Nat} (hx : ev m x = some (.slice a n c)) : Yl P S (.call { callee := .builtin .cap, args := #[x], argTypes := #[t] }) m (.int .i64 c) :=
  yl_builtin (vs := [.slice a n c]) (by unfold evs evs; rw [hx]; rfl) fun ty c' w _ => by
    simp [builtin, Builtin.cap_, run_underlying hu, Sem.run_bind, Sem.run_pure, Result.andThen_ok, goInt]
/-- So many zeros onto nothing. -/
theorem ef_zeros {t tn e size bytes : Nat} {kn : IntKind} {i : TypeInfo} {z : Value} (hS : St F w0 L R w) (T : SlT P t e i z size bytes) (htn : P.underlying tn = some (.int kn)) {put : Rw → List Rw} (hx : ev m x = some (.slice none 0 0)) [hr : FindR e size none 0 0 R [] put] {k : Nat} {kq : IntKind} (hy : ev m y = some (.int kq (k : Int))) (hk : 0 < k) (hb : k * bytes ≤ 140737488355328 ∧ k ≤ 4611686018427387904) :
    Ef P (.call { callee := .builtin .append, args := #[x, y], argTypes := #[t, tn] }) m w (fun v w' => ∃ a' c', v = .slice a' k c' ∧ St F w0 L (put ⟨e, size, a', k, c', (Builtin.zeroCells z.cells k).toList⟩) w') := fun o n a K Q ho hF h => by
  obtain ⟨R1, R2, rfl, h2⟩ := hr.out
  have hzs : i.size = z.cells.size := by rw [T.s, T.hzs]
  have hsz : i.size = size := T.s
  have hbytes : i.bytes = bytes := T.b
  have hcap : Builtin.nextslicecap (0 + k) 0 = k := by unfold Builtin.nextslicecap; rw [if_pos (by omega)]; omega
  have hrun := Go.Lib.run_append_grow_zeros w t tn o.type e i z kq kn T.u htn T.hi T.hz none 0 0 [] (run_firstCells_none w.drew i.size 0 0 0) k hk (by rw [hsz]; exact T.p) (by omega) (by rw [Nat.zero_add]; omega) (by rw [hbytes]; omega) (by rw [hcap, hbytes]; omega)
  rw [Nat.zero_add] at hrun
  have hge := grownCap_ge w k 0 e
  have hle := grownCap_le_maxLen w k 0 e (by unfold maxLen; omega)
  obtain ⟨C, hC⟩ : ∃ C, C = grownCap w k 0 e := ⟨_, rfl⟩
  rw [← hC] at hrun hge hle
  have zl : ∀ j, (Builtin.zeroCells z.cells j).size = j * size := fun j => by simp [Builtin.zeroCells, T.hzs]
  obtain ⟨cur, hcur⟩ : ∃ cur, cur = (#[] : Array Value) ++ Builtin.zeroCells z.cells k ++ Builtin.zeroCells z.cells (C - k) := ⟨_, rfl⟩
  have hrun' : (Builtin.append_ #[t, tn] o.type #[.slice none 0 0, .int kq k]).run P w = .ok (.slice (some ⟨w.heap.size, 0, none⟩) k C) (w.drew.alloc (.cells cur e)) := by rw [hcur]; simpa using hrun
  have hcs : cur.size = C * size := by
    rw [hcur]; simp only [Array.size_append, Array.size_empty, zl, Nat.zero_add, Nat.sub_mul]
    have := Nat.mul_le_mul_right size hge
    omega
  have ho1 : (w.drew.alloc (.cells cur e)).ownsRow 0 e size (.slice (some ⟨w.heap.size, 0, none⟩) k C) k (Builtin.zeroCells z.cells k).toList := by
    refine ⟨by simpa using zl k, .inr ⟨w.heap.size, C, cur, rfl, Nat.zero_le _, heap_alloc_new w.drew _, hge, hle, hcs, ?_⟩⟩
    rw [hcur]
    simp only [Array.empty_append, Array.toList_append]
    exact List.take_left' (by simpa using zl k)
  unfold Oper.wp execOp
  simp only [ho, resolve, invoke, builtin, Sem.run_bind, Sem.run_pure, Result.andThen_ok, List.map_toArray, List.map_cons, List.map_nil, hF.eval hx, hF.eval hy, hrun']
  refine h _ _ ⟨some ⟨w.heap.size, 0, none⟩, C, rfl, ?_⟩
  rw [h2]
  have hs1 := (hS.drew.alloc cur e)
  have hs2 := hs1.kp
  refine St.grow (r := ⟨e, size, none, 0, 0, []⟩) (w := w) hS ho1 ?_ (by simp [aF])
  refine ⟨rfl, rfl, rfl, by simp, fun k' hk' _ => ?_⟩
  exact heap_alloc_old w.drew _ hk'
/-- An element of an array that lies in a block. -/
theorem ix_ar {t e N size : Nat} (hu : P.underlying t = some (.array N e)) (hs : (P.info? e).map (·.size) = some size) {g off k o : Nat} {ik : IntKind} (hx : ev m x = some (.pointer (some ⟨g, off, none⟩))) (hy : ev m y = some (.int ik (k : Int))) (hk : k < N) (ho : off + k * size = o) : Yl P S (.indexAddr t x y) m (.pointer (some ⟨g, o, none⟩)) :=
  yl_indexAddr hx hy fun w => by
    obtain ⟨i, hi, hz⟩ := Option.map_eq_some_iff.1 hs
    have hadd : (⟨g, off, none⟩ : Addr).add (k * size) = ⟨g, o, none⟩ := by rw [Addr.add_mid, ho]
    simp [Instr.indexAt, asIntOf, run_underlying hu, Instr.sureAddr, sizeOf, typeInfo, hi, hz, Sem.run_bind, Sem.run_pure, Result.andThen_ok, hadd]
    intro hh; omega
/-- A hash in a block, byte by byte. -/
theorem St.rdB {g off : Nat} {s : List (Nat × Value)} {bt : TypeId} {put : List (Nat × Value) → List Bk} (hS : St F w0 L R w) [hb : FindB g L s bt put] [hw : SgW s] {h : Hsh} (hv' : sgGet s off 32 = some (hv h)) : Rd w (some ⟨g, off, none⟩) 32 32 1 (bcs h.1) := by
  obtain ⟨_, e2, _⟩ := sgGet_spec s off 32 _ hw hv'
  have hr := range_sg hb hS (mid := bcs h.1) (sz := 32) (by rw [e2]; simp [Value.cells, hvA, hcs]) (by rw [bcs_length, h.2])
  refine ⟨by rw [bcs_length, h.2], Nat.le_refl _, by unfold maxLen; omega, by simp, fun j u hu => ⟨⟨g, off, none⟩, rfl, ?_⟩⟩
  rw [Addr.add_mid]
  exact hr j u hu
theorem fill_congr (f g : Nat → Option (Nat × Nat)) : ∀ (ps : List (Nat × Value)) (A : Array Value), (∀ p ∈ ps, f p.1 = g p.1) → Instr.fill f A ps = Instr.fill g A ps
  | [], _, _ => rfl
  | (i, v) :: ps, A, h => by
    rw [Instr.fill, Instr.fill, h (i, v) List.mem_cons_self]
    cases g i with
    | none => rfl
    | some q =>
      obtain ⟨o, sz⟩ := q
      simp only
      split
      · rfl
      · exact fill_congr f g ps _ fun p hp => h p (List.mem_cons_of_mem _ hp)
theorem bd_ar {t e N size : Nat} {s0 s : List (Nat × Value)} {parts : Array (Nat × Operand)} {vs : List Value} (hu : P.underlying t = some (.array N e)) (hs : (P.info? e).map (·.size) = some size) (Z : ZeS P t s0) [hw : SgW s0] (hx : evs m (parts.toList.map (·.2)) = some vs)
    {pl : List (Nat × Nat)} (hpl : ∀ i ∈ parts.toList.map (·.1), pl[i]? = some (i * size, size)) (hv : SgW (vs.map fun v => (size, v))) (hf : sgFill pl ((parts.toList.map (·.1)).zip vs) s0 = some s) :
    Yl P S (.build t parts) m (.agg (sgA s)) :=
  yl_build hx fun w => by
    obtain ⟨z, ⟨i, hi, hzz⟩, hz⟩ := Z
    obtain ⟨ie, hie, hze⟩ := Option.map_eq_some_iff.1 hs
    have hmem : ∀ p ∈ (parts.toList.map (·.1)).zip vs, p.1 ∈ parts.toList.map (·.1) ∧ p.2 ∈ vs := fun p hp => List.of_mem_zip hp
    have hfill := fill_sg pl.toArray ((parts.toList.map (·.1)).zip vs) s0 s hw (by
      intro p hp q hq
      obtain ⟨h1, h2⟩ := hmem p hp
      have hq' : pl[p.1]? = some q := by simpa using hq
      rw [hpl _ h1] at hq'
      obtain rfl := Option.some.inj hq'
      exact hv.all (size, p.2) (List.mem_map_of_mem h2)) (by simpa using hf)
    have hfill2 := (fill_congr (fun i => some (i * size, size)) (fun x => pl.toArray[x]?) ((parts.toList.map (·.1)).zip vs) (sgA s0) (fun p hp => by rw [show pl.toArray[p.1]? = pl[p.1]? by simp, hpl _ (hmem p hp).1])).trans hfill
    have hzv : (zeroValue t).run P w = .ok z w := by simp [zeroValue, typeInfo, hi, hzz]
    have hsz : (sizeOf e).run P w = .ok size w := by simp [sizeOf, typeInfo, hie, hze]
    simp only [Instr.build, Sem.run_bind, hzv, run_underlying hu, Result.andThen_ok, hz, hsz]
    rw [hfill2]
    simp
end
/-! ### Strings -/
section
variable {P : Program} {S : World → Prop} {m : List (Nat × Value)} {x y : Operand} {xt yt : TypeId}
theorem yl_str {s d e : TypeId} (hs : P.underlying s = some (.slice e)) (he : P.underlying e = some (.int .u8)) (hd : P.underlying d = some .string) {a : Option Addr} {c : Nat} {l : List UInt8} (hx : ev m x = some (.slice a l.length c)) (hr : ∀ w, S w → Rd w a l.length c 1 (bcs l)) : Yl P S (.convert s d x) m (.string ⟨l.toArray⟩) :=
  yl_conv hx fun w hS => conv_string hs he hd (hr w hS)
theorem yl_eqS {p q : ByteArray} {b : Bool} (hx : ev m x = some (.string p)) (hy : ev m y = some (.string q)) (h : decide (p.data.toList = q.data.toList) = b) : Yl P S (.binOp .eql xt x y yt) m (.bool b) :=
  yl_bin hx hy fun w _ => by
    rw [← h]
    simp [eqGuard, binOp, Op.stringOp, ByteArray.toList_eq, Bool.beq_eq_decide_eq]
theorem yl_neS {p q : ByteArray} {b : Bool} (hx : ev m x = some (.string p)) (hy : ev m y = some (.string q)) (h : decide (p.data.toList ≠ q.data.toList) = b) : Yl P S (.binOp .neq xt x y yt) m (.bool b) :=
  yl_bin hx hy fun w _ => by
    rw [← h, show decide (p.data.toList ≠ q.data.toList) = !decide (p.data.toList = q.data.toList) by simp]
    simp [eqGuard, binOp, Op.stringOp, ByteArray.toList_eq, Bool.beq_eq_decide_eq]
end
end Go.Proofs.YtgfppmnpccaloaaDoor
