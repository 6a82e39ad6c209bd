/-
  WALKS IN A ROUND OF A RANGE OVER A FUNCTION, of the iterator, and behind such a loop: the laws of Sx over the fenced walk, with the marks among the frame's deferred calls.
-/
import Derived.Test.YtgfppmnpccaloaaDoorSx
import Derived.RangeFuncRecord
import Derived.RangeFuncSeq
import Derived.RangeFuncLeaves
import Derived.OrdersIn
import Derived.TacticsIn
namespace Go.Proofs.YtgfppmnpccaloaaDoor.R
open Go.RowKit Go.Proofs.YtgfppmnpccaloaaDoor

/-- Every function, any depth; in the round of record l, or in none. -/
abbrev Wd (ro : Option Nat) : Fence := { fn := fun _ => True, depth := none, alive := false, round := ro }
def mk (b : Nat) : Deferred := { target := .collected b, args := #[] }
structure Fr (D : List Nat) (m : List (Nat × Value)) (n : Nat) (a : Act) : Prop where
  fr : Go.Proofs.YtgfppmnpccaloaaDoor.Fr m n { a with defers := [] }
  df : a.defers = D.map mk
  nd : D.Nodup
section
variable {D : List Nat} {m m' : List (Nat × Value)} {n : Nat} {a : Act}
theorem Fr.of (h : Go.Proofs.YtgfppmnpccaloaaDoor.Fr m n a) : Fr [] m n a := ⟨⟨h.size, rfl, h.val⟩, h.defers, List.nodup_nil⟩
theorem Fr.eval (h : Fr D m n a) {x : Operand} {v : Value} (hx : ev m x = some v) : a.eval x = v := by
  have := h.fr.eval hx
  cases x <;> exact this
theorem eval_df (a : Act) : ({ a with defers := [] } : Act).eval = a.eval := by funext x; cases x <;> rfl
theorem Fr.evals (h : Fr D m n a) {xs : List Operand} {vs : List Value} (hx : evs m xs = some vs) : xs.map a.eval = vs := by
  have := h.fr.evals hx
  rw [eval_df] at this; exact this
theorem Fr.put (h : Fr D m n a) {d : Nat} (hd : Nat.blt d n = true) (v : Value) : Fr D ((d, v) :: m) n (a.put (some d) v) := ⟨h.fr.put hd v, h.df, h.nd⟩
theorem Fr.sub (h : Fr D m n a) (hs : agrees m m') : Fr D m' n a := ⟨h.fr.sub hs, h.df, h.nd⟩
theorem wanted_of {l : List Oper} (hF : Fr D m n a) {o : Oper} {c : Bool} (h : want l m o.guard = some c) : Region.wanted o (yielded l.toArray a.tmps) = c := Go.Proofs.YtgfppmnpccaloaaDoor.wanted_of hF.fr h
end

/-! ### Operations -/
/-- An operation's walk, met by its run. -/
def opw (ro : Option Nat) (P : Program) (o : Oper) (a : Act) (w : World) (K : Act → World → Prop) (Q : Exit → Act → World → Prop) : Prop := o.uponIn (Wd ro) 0 P a K Q ((execOp a.eval o).run P w)
def nodf : Op → Bool
  | .defer _ => false
  | _ => true
section
variable {ro : Option Nat} {P : Program} {o : Oper} {a : Act} {w : World} {K K' : Act → World → Prop} {Q : Exit → Act → World → Prop}
theorem nodf_spec {op : Op} (h : nodf op = true) : ∀ c, op ≠ .defer c := fun c e => by subst e; cases h
theorem opw.wpIn (hn : nodf o.op = true) (h : opw ro P o a w K Q) : o.wpIn (Wd ro) 0 P a w K Q := by
  refine ⟨fun _ _ => trivial, ?_⟩
  rw [Oper.semAt_eq _ _ _ (nodf_spec hn)]
  exact h
theorem opw_mono (h : ∀ a w, K a w → K' a w) (hh : opw ro P o a w K Q) : opw ro P o a w K' Q := by
  unfold opw at *
  generalize (execOp a.eval o).run P w = r at *
  cases r with
  | ok x w' =>
    cases x <;> simp only [Oper.uponIn] at hh ⊢ <;>
      first
        | exact h _ _ hh
        | exact ⟨hh.1, CallsIn.mono hh.2 (fun e w'' he => by cases e <;> first | exact h _ _ he | exact he)⟩
        | exact ⟨hh.1, RowsIn.mono hh.2 (fun _ _ he => h _ _ he)⟩
        | exact ⟨hh.1, RoundIn.mono hh.2 (fun e w'' he => by cases e <;> first | exact h _ _ he | exact he)⟩
  | halt x w' => cases x <;> simp only [Oper.uponIn] at hh ⊢ <;> exact hh
theorem calls_in {f : FuncId} {args : Array Value} {R : Ending → World → Prop} (h : Calls P f args w R) : CallsIn (Wd ro) 0 P f args w R := (callsIn_wide (n := 0)).2 h
/-- What is known of an operation's plain walk, whatever the frame's deferred calls. -/
theorem opw_of {K0 : Act → World → Prop} {Q0 : Exit → Act → World → Prop} (h : o.wp P { a with defers := [] } w K0 Q0)
    (hK : ∀ a' w', K0 a' w' → a'.defers = [] ∧ K { a' with defers := a.defers } w') (hQ : ∀ e a' w', Q0 e a' w' → Q e { a' with defers := a.defers } w') : opw ro P o a w K Q := by
  unfold opw
  unfold Oper.wp at h
  rw [eval_df] at h
  generalize (execOp a.eval o).run P w = r at *
  have hp : ∀ v, ({ ({ a with defers := [] } : Act).put o.dst v with defers := a.defers } : Act) = a.put o.dst v := fun v => by cases ho : o.dst <;> rfl
  cases r with
  | ok x w' =>
    cases x <;> simp only [Oper.upon, Oper.uponIn] at h ⊢
    case value v => have := (hK _ _ h).2; rw [hp] at this; exact this
    case skip => have := (hK _ _ h).2; rw [hp] at this; exact this
    case defer d => have := (hK _ _ h).1; cases ho : o.dst <;> rw [ho] at this <;> cases this
    case enter f args =>
      refine ⟨fun h => (by cases h), calls_in (Calls.mono h fun e w'' he => ?_)⟩
      cases e with
      | returned v => have := (hK _ _ he).2; rw [hp] at this; exact this
      | panicked c => exact hQ _ { a with defers := [] } _ he
      | outgrown => obtain ⟨a', w3, he⟩ := he; exact ⟨_, _, hQ _ _ _ he⟩
    case row row args =>
      refine ⟨fun h => (by cases h), fun c cs _ => ?_⟩
      obtain ⟨v, w'', he, hs⟩ := h c cs
      have := (hK _ _ he).2
      rw [hp] at this
      exact ⟨v, w'', this, stepsIn_wide.2 hs⟩
  | halt x w' => cases x <;> simp only [Oper.upon, Oper.uponIn] at h ⊢ <;> exact hQ _ { a with defers := [] } _ h
theorem opw_y {D : List Nat} {m : List (Nat × Value)} {n : Nat} {S : World → Prop} {v : Value} {op : Op} (hF : Fr D m n a) (ho : o.op = op) (hS : S w) (hy : Yl P S op m v) (h : K (a.put o.dst v) w) : opw ro P o a w K Q := by
  unfold opw
  have := hy o n { a with defers := [] } w ho hF.fr hS
  rw [eval_df] at this
  rw [this]
  exact h
theorem opw_ef {D : List Nat} {m : List (Nat × Value)} {n : Nat} {R : Value → World → Prop} {op : Op} (hF : Fr D m n a) (ho : o.op = op) (he : Ef P op m w R) (h : ∀ v w', R v w' → K (a.put o.dst v) w') : opw ro P o a w K Q := by
  refine opw_of (he o n { a with defers := [] } (fun a' w' => a'.defers = [] ∧ K { a' with defers := a.defers } w') (fun e a' w' => Q e { a' with defers := a.defers } w') ho hF.fr fun v w' hR => ?_) (fun _ _ h => h) (fun _ _ _ h => h)
  refine ⟨by cases ho : o.dst <;> rfl, ?_⟩
  have hp : ({ ({ a with defers := [] } : Act).put o.dst v with defers := a.defers } : Act) = a.put o.dst v := by cases ho : o.dst <;> rfl
  rw [hp]
  exact h v w' hR
end

/-! ### Regions in the text's order -/
def wpList (ro : Option Nat) (P : Program) (ops : Array Oper) (Q : Exit → Act → World → Prop) : List Oper → Act → World → Prop
  | [], a, w => Q .normal a w
  | o :: rest, a, w => if Region.wanted o (yielded ops a.tmps) then opw ro P o a w (wpList ro P ops Q rest) Q else wpList ro P ops Q rest (a.put o.dst undef) w
def nodfs (l : List Oper) : Bool := l.all fun o => nodf o.op
section
variable {ro : Option Nat} {P : Program} {ops : Array Oper} {Q : Exit → Act → World → Prop} {a : Act} {w : World}
theorem wpList_in : ∀ (l : List Oper) (a : Act) (w : World), nodfs l = true → wpList ro P ops Q l a w → wpListIn (Wd ro) 0 P ops Q l a w
  | [], _, _, _, h => h
  | o :: l, a, w, hn, h => by
    unfold nodfs at hn
    rw [List.all_cons, Bool.and_eq_true] at hn
    unfold wpListIn
    unfold wpList at h
    by_cases hw : Region.wanted o (yielded ops a.tmps) = true
    · rw [if_pos hw] at h ⊢
      exact (opw_mono (fun a' w' h' => wpList_in l a' w' hn.2 h') h).wpIn hn.1
    · rw [if_neg hw] at h ⊢
      exact ⟨fun _ _ => trivial, wpList_in l _ _ hn.2 h⟩
theorem wp_region_lit {id : Nat} {l : List Oper} (h : wpList ro P l.toArray Q l a w) (hn : nodfs l = true := by kernel_rfl) : (Code.region id l.toArray false).wpIn (Wd ro) 0 P Q a w := wpIn_region_lit (wpList_in l a w hn h)
theorem wpList_nil (h : Q .normal a w) : wpList ro P ops Q [] a w := h
end
section
variable {ro : Option Nat} {D : List Nat} {P : Program} {l rest : List Oper} {Q : Exit → Act → World → Prop} {m : List (Nat × Value)} {n d : Nat} {a : Act} {w : World} {op : Op} {ty : TypeId} {pos : String} {af : Array Edge} {g : Option (Nat × Bool)} {v : Value}
theorem wpList_wanted {o : Oper} (hw : Region.wanted o (yielded l.toArray a.tmps) = true) (h : opw ro P o a w (wpList ro P l.toArray Q rest) Q) : wpList ro P l.toArray Q (o :: rest) a w := by
  unfold wpList; rw [if_pos hw]; exact h
theorem sx_y {S : World → Prop} (hF : Fr D m n a) (hS : S w) (hy : Yl P S op m v) (hd : Nat.blt d n = true) (hg : want l m g = some true) (h : ∀ a', Fr D ((d, v) :: m) n a' → wpList ro P l.toArray Q rest a' w) : wpList ro P l.toArray Q (⟨some d, op, ty, pos, af, g⟩ :: rest) a w :=
  wpList_wanted (wanted_of hF hg) (opw_y hF rfl hS hy (h _ (hF.put hd v)))
theorem sx_off (hF : Fr D m n a) (hd : Nat.blt d n = true) (hg : want l m g = some false) (h : ∀ a', Fr D ((d, undef) :: m) n a' → wpList ro P l.toArray Q rest a' w) : wpList ro P l.toArray Q (⟨some d, op, ty, pos, af, g⟩ :: rest) a w := by
  unfold wpList
  rw [if_neg (by rw [wanted_of hF (c := false) hg]; simp)]
  exact h _ (hF.put hd undef)
theorem sx_off0 (hF : Fr D m n a) (hg : want l m g = some false) (h : wpList ro P l.toArray Q rest a w) : wpList ro P l.toArray Q (⟨none, op, ty, pos, af, g⟩ :: rest) a w := by
  unfold wpList
  rw [if_neg (by rw [wanted_of hF (c := false) hg]; simp)]
  exact h
theorem sx_dec {S : World → Prop} {p : Prop} [Decidable p] (hF : Fr D m n a) (hS : S w) (hy : Yl P S op m (.bool (decide p))) (hd : Nat.blt d n = true) (hg : want l m g = some true) (hT : p → ∀ a', Fr D ((d, .bool true) :: m) n a' → wpList ro P l.toArray Q rest a' w) (hN : ¬ p → ∀ a', Fr D ((d, .bool false) :: m) n a' → wpList ro P l.toArray Q rest a' w) : wpList ro P l.toArray Q (⟨some d, op, ty, pos, af, g⟩ :: rest) a w := by
  by_cases hp : p
  · rw [decide_eq_true hp] at hy; exact sx_y hF hS hy hd hg (hT hp)
  · rw [decide_eq_false hp] at hy; exact sx_y hF hS hy hd hg (hN hp)
theorem sx_ef {R : Value → World → Prop} (hF : Fr D m n a) (he : Ef P op m w R) (hd : Nat.blt d n = true) (hg : want l m g = some true) (h : ∀ v w' a', R v w' → Fr D ((d, v) :: m) n a' → wpList ro P l.toArray Q rest a' w') : wpList ro P l.toArray Q (⟨some d, op, ty, pos, af, g⟩ :: rest) a w :=
  wpList_wanted (wanted_of hF hg) (opw_ef hF rfl he fun v w' hR => h v w' _ hR (hF.put hd v))
theorem sx_ef0 {R : Value → World → Prop} (hF : Fr D m n a) (he : Ef P op m w R) (hg : want l m g = some true) (h : ∀ v w', R v w' → wpList ro P l.toArray Q rest a w') : wpList ro P l.toArray Q (⟨none, op, ty, pos, af, g⟩ :: rest) a w :=
  wpList_wanted (wanted_of hF hg) (opw_ef hF rfl he fun v w' hR => h v w' hR)
theorem sx_call {f : FuncId} {fn : Func} {xs : Array Operand} {ts : Array TypeId} {vs : List Value} {R : Ending → World → Prop} (hF : Fr D m n a) (hf : P.funcs[f]? = some fn) (hn : (fn.name == "runtime.NumGoroutine") = false) (hb : fn.body.isNone = false) (hx : evs m xs.toList = some vs) (hc : Calls P f vs.toArray w R) (hd : Nat.blt d n = true) (hg : want l m g = some true)
    (h : ∀ e w', R e w' → ∃ v, e = .returned v ∧ ∀ a', Fr D ((d, v) :: m) n a' → wpList ro P l.toArray Q rest a' w') : wpList ro P l.toArray Q (⟨some d, .call { callee := .value (.func f), args := xs, argTypes := ts }, ty, pos, af, g⟩ :: rest) a w :=
  sx_ef hF (ef_call hf hn hb hx hc (R' := fun v w' => ∀ a', Fr D ((d, v) :: m) n a' → wpList ro P l.toArray Q rest a' w') h) hd hg fun _ _ _ hR hF' => hR _ hF'
theorem sx_callv {x : Operand} {cap : List Value} {f : FuncId} {fn : Func} {xs : Array Operand} {ts : Array TypeId} {vs : List Value} {R : Ending → World → Prop} (hF : Fr D m n a) (hv : ev m x = some (.func (.func f) #[] cap.toArray)) (hf : P.funcs[f]? = some fn) (hn : (fn.name == "runtime.NumGoroutine") = false) (hb : fn.body.isNone = false) (hx : evs m xs.toList = some vs) (hc : Calls P f (vs ++ cap).toArray w R) (hd : Nat.blt d n = true) (hg : want l m g = some true)
    (h : ∀ e w', R e w' → ∃ v, e = .returned v ∧ ∀ a', Fr D ((d, v) :: m) n a' → wpList ro P l.toArray Q rest a' w') : wpList ro P l.toArray Q (⟨some d, .call { callee := .value x, args := xs, argTypes := ts }, ty, pos, af, g⟩ :: rest) a w :=
  sx_ef hF (ef_callv hv hf hn hb hx hc (R' := fun v w' => ∀ a', Fr D ((d, v) :: m) n a' → wpList ro P l.toArray Q rest a' w') h) hd hg fun _ _ _ hR hF' => hR _ hF'
theorem sx_call0 {f : FuncId} {fn : Func} {xs : Array Operand} {ts : Array TypeId} {vs : List Value} {R : Ending → World → Prop} (hF : Fr D m n a) (hf : P.funcs[f]? = some fn) (hn : (fn.name == "runtime.NumGoroutine") = false) (hb : fn.body.isNone = false) (hx : evs m xs.toList = some vs) (hc : Calls P f vs.toArray w R) (hg : want l m g = some true)
    (h : ∀ e w', R e w' → ∃ v, e = .returned v ∧ wpList ro P l.toArray Q rest a w') : wpList ro P l.toArray Q (⟨none, .call { callee := .value (.func f), args := xs, argTypes := ts }, ty, pos, af, g⟩ :: rest) a w :=
  sx_ef0 hF (ef_call hf hn hb hx hc (R' := fun _ w' => wpList ro P l.toArray Q rest a w') h) hg fun _ _ hR => hR
/-- A call of yield. -/
theorem opw_yield {o : Oper} {K : Act → World → Prop} {x : Operand} {lr : Nat} {xs : Array Operand} {ts : Array TypeId} {vs : List Value} {R : Ending → World → Prop} (ho : o.op = .call { callee := .value x, args := xs, argTypes := ts }) (hF : Fr D m n a) (hv : ev m x = some (.func (.yield lr) #[] #[])) (hx : evs m xs.toList = some vs) (hy : YieldAt (Wd ro) 0 P lr vs.toArray w R)
    (h : ∀ e w', R e w' → ∃ v, e = .returned v ∧ K (a.put o.dst v) w') : opw ro P o a w K Q := by
  have h1 : xs.map a.eval = vs.toArray := by rw [← hF.evals hx]; apply Array.ext'; simp
  have he : execOp a.eval o = Instr.yield lr (#[] ++ xs.map a.eval) := by
    unfold execOp; rw [ho]
    simp only [resolve, hF.eval hv, Deferred.ofValue]
    rfl
  unfold opw
  obtain ⟨fn, tmps, assign, body, hr, hR⟩ := hy
  rw [he, h1, Array.empty_append, hr]
  refine ⟨fun h => (by cases h), hR.mono fun e w' hR' => ?_⟩
  obtain ⟨v, rfl, hv'⟩ := h e w' hR'
  exact hv'
theorem sx_yield {x : Operand} {lr : Nat} {xs : Array Operand} {ts : Array TypeId} {vs : List Value} {R : Ending → World → Prop} (hF : Fr D m n a) (hv : ev m x = some (.func (.yield lr) #[] #[])) (hx : evs m xs.toList = some vs) (hy : YieldAt (Wd ro) 0 P lr vs.toArray w R) (hd : Nat.blt d n = true) (hg : want l m g = some true)
    (h : ∀ e w', R e w' → ∃ v, e = .returned v ∧ ∀ a', Fr D ((d, v) :: m) n a' → wpList ro P l.toArray Q rest a' w') : wpList ro P l.toArray Q (⟨some d, .call { callee := .value x, args := xs, argTypes := ts }, ty, pos, af, g⟩ :: rest) a w :=
  wpList_wanted (wanted_of hF hg) (opw_yield rfl hF hv hx hy fun e w' hR => by
    obtain ⟨v, rfl, hv'⟩ := h e w' hR
    exact ⟨v, rfl, hv' _ (hF.put hd v)⟩)
end

/-! ### Regions that draw -/
def wpOp (ro : Option Nat) (P : Program) (ops : Array Oper) (Q : Exit → Act → World → Prop) (i : Nat) (K : Act → World → Prop) (a : Act) (w : World) : Prop :=
  match ops[i]? with
  | none => K a w
  | some o => if Region.wanted o (yielded ops a.tmps) then opw ro P o a w K Q else K (a.put o.dst undef) w
section
variable {ro : Option Nat} {P : Program} {ops : Array Oper} {Q : Exit → Act → World → Prop} {md : Region.Mode} {S : World → Prop} {k : Nat}
theorem wpOp_mono {i : Nat} {a : Act} {w : World} {K K' : Act → World → Prop} (h : ∀ a w, K a w → K' a w) (hh : wpOp ro P ops Q i K a w) : wpOp ro P ops Q i K' a w := by
  unfold wpOp at *
  split
  · exact h _ _ (by simpa [*] using hh)
  · rename_i o ho
    simp only [ho] at hh
    split
    · rename_i hw; simp only [hw, if_true] at hh; exact opw_mono h hh
    · rename_i hw; simp only [hw] at hh; exact h _ _ hh
theorem wpOp_putIf {j : Nat} {oi oj : Oper} {v : Value} (hj : ops[j]? = some oj) (hap : oi.apart ops oj = true)
    (hsi : ∀ cs b, oi.op ≠ .select cs b) (hsj : ∀ cs b, oj.op ≠ .select cs b)
    (hQ : ∀ c a w, Q (.panic c) (a.put oi.dst v) w → Q (.panic c) a w) {K : Act → World → Prop} {a : Act} {w : World}
    (hy : YieldsIf P ops S oi v a) (h : wpOp ro P ops Q j K (a.put oi.dst v) w) :
    wpOp ro P ops Q j (fun a' w' => YieldsIf P ops S oi v a' ∧ K (a'.put oi.dst v) w') a w := by
  obtain ⟨h1, h2, h3⟩ := Oper.apart_spec hap
  have keep : ∀ (a : Act), YieldsIf P ops S oi v a → ∀ u, YieldsIf P ops S oi v (a.put oj.dst u) := fun a hy u =>
    hy.of_same (execOp_put oi hsi a oj.dst u h3) (wanted_put oi a oj.dst u h3)
  have keepD : ∀ d, YieldsIf P ops S oi v { a with defers := d :: a.defers } := fun d => hy.of_same rfl rfl
  unfold wpOp at *
  simp only [hj] at *
  rw [wanted_put oj a oi.dst v h1] at h
  split
  · rename_i hw
    simp only [hw, if_true] at h
    unfold opw at *
    rw [execOp_put oj hsj a oi.dst v h1] at h
    generalize (execOp a.eval oj).run P w = r at *
    cases r with
    | ok n w' =>
      cases n <;> simp only [Oper.uponIn] at h ⊢
      case value u => exact ⟨keep a hy u, by rw [← Act.put_comm a v u h2]; exact h⟩
      case skip => exact ⟨keep a hy _, by rw [← Act.put_comm a v undef h2]; exact h⟩
      case defer d =>
        refine ⟨keep _ (keepD d) _, ?_⟩
        rw [← Act.put_comm _ v undef h2, ← Act.put_defers]
        exact h
      case enter f args =>
        refine ⟨h.1, CallsIn.mono h.2 fun e w'' he => ?_⟩
        cases e with
        | returned u => exact ⟨keep a hy u, by rw [← Act.put_comm a v u h2]; exact he⟩
        | panicked c => exact hQ _ _ _ he
        | outgrown => exact he
      case row row args => exact ⟨h.1, RowsIn.mono h.2 fun u w'' he => ⟨keep a hy u, by rw [← Act.put_comm a v u h2]; exact he⟩⟩
      case round l f tmps assign body =>
        refine ⟨h.1, RoundIn.mono h.2 fun e w'' he => ?_⟩
        cases e with
        | returned u => exact ⟨keep a hy u, by rw [← Act.put_comm a v u h2]; exact he⟩
        | panicked c => exact hQ _ _ _ he
        | outgrown => exact he
    | halt x w' =>
      cases x <;> simp only [Oper.uponIn] at h ⊢
      case panic u => exact hQ _ _ _ h
  · rename_i hw
    simp only [hw] at h
    exact ⟨keep a hy _, by rw [← Act.put_comm a v undef h2]; exact h⟩
theorem YieldsIf_wpOp {i : Nat} {o : Oper} {v : Value} {a : Act} (hi : ops[i]? = some o) (hy : YieldsIf P ops S o v a)
    {K : Act → World → Prop} {w : World} (hS : S w) (h : K (a.put o.dst v) w) : wpOp ro P ops Q i K a w := by
  unfold wpOp
  simp only [hi]
  rcases hy with ⟨hw, hv⟩ | ⟨hw, rfl⟩
  · simp only [hw, if_true, opw, hv w hS, Oper.uponIn]; exact h
  · simp only [hw, Bool.false_eq_true, if_false]; exact h
/-- Whatever order is picked from here on; S holds behind every operation, till number k has come up. -/
def wpAnyK (ro : Option Nat) (P : Program) (md : Region.Mode) (ops : Array Oper) (Q : Exit → Act → World → Prop) (S : World → Prop) (k : Nat) : Nat → Array Bool → Act → World → Prop
  | 0, listed, a, w => Region.ready md ops listed = [] ∧ Q .normal a w
  | fuel + 1, listed, a, w =>
    (Region.ready md ops listed = [] → Q .normal a w) ∧
    ∀ i ∈ Region.ready md ops listed, wpOp ro P ops Q i (fun a' w' => ((listed.setIfInBounds i true).getD k false = false → S w') ∧ wpAnyK ro P md ops Q S k fuel (listed.setIfInBounds i true) a' w') a w

/-- An operation that reads, for which number k waits. -/
theorem wpAnyK_first {i : Nat} {oi : Oper} {v : Value} (hi : ops[i]? = some oi) (hsel : ∀ (j : Nat) (o : Oper) cs b, ops[j]? = some o → o.op ≠ .select cs b)
    (hQ : ∀ c a w, Q (.panic c) (a.put oi.dst v) w → Q (.panic c) a w) (hk : ∀ ok, ops[k]? = some ok → ∃ e ∈ ok.after, Region.binds md e = true ∧ e.on = i) :
    ∀ (fuel : Nat) (listed : Array Bool) (a : Act) (w : World),
      (∀ j oj, ops[j]? = some oj → j ≠ i → listed.getD j true = false → (∀ e ∈ oj.after, Region.binds md e = true → e.on ≠ i) → oi.apart ops oj = true) →
      i ∈ Region.ready md ops listed → YieldsIf P ops S oi v a → S w → listed.getD k false = false →
      wpAnyK ro P md ops Q S k fuel (listed.setIfInBounds i true) (a.put oi.dst v) w → wpAnyK ro P md ops Q S k (fuel + 1) listed a w := by
  intro fuel
  induction fuel with
  | zero =>
    intro listed a w _ hr hy hS hl H
    refine ⟨fun h => (by rw [h] at hr; cases hr), fun j hj => ?_⟩
    by_cases hji : j = i
    · subst hji; exact YieldsIf_wpOp hi hy hS ⟨fun _ => hS, H⟩
    · have := ready_mono hj hji
      rw [H.1] at this
      cases this
  | succ fuel ih =>
    intro listed a w hfree hr hy hS hl H
    refine ⟨fun h => (by rw [h] at hr; cases hr), fun j hj => ?_⟩
    by_cases hji : j = i
    · subst hji; exact YieldsIf_wpOp hi hy hS ⟨fun _ => hS, H⟩
    · have h1 := H.2 j (ready_mono hj hji)
      obtain ⟨hjun, oj, hoj, hall⟩ := mem_ready.1 hj
      have hnot : ∀ e ∈ oj.after, Region.binds md e = true → e.on ≠ i := fun e he hb heq => by
        have h1 := hall e he hb
        have h0 := (mem_ready.1 hr).1
        rw [heq] at h1
        rcases Nat.lt_or_ge i listed.size with h' | h'
        · simp [h'] at h0 h1; rw [h0] at h1; cases h1
        · simp [Array.getElem?_eq_none h'] at h1
      have hjk : j ≠ k := fun hh => by
        subst hh
        obtain ⟨e, he, hb, heq⟩ := hk oj hoj
        exact hnot e he hb heq
      have hik : i ≠ k := fun hh => by
        subst hh
        obtain ⟨e, he, hb, heq⟩ := hk oi hi
        obtain ⟨h0, o', ho', hall'⟩ := mem_ready.1 hr
        obtain rfl := Option.some.inj (hi.symm.trans ho')
        have h1 := hall' e he hb
        rw [heq] at h1
        rcases Nat.lt_or_ge i listed.size with h' | h'
        · simp [h'] at h0 h1; rw [h0] at h1; cases h1
        · simp [Array.getElem?_eq_none h'] at h1
      have h2 := wpOp_putIf hoj (hfree j oj hoj hji hjun hnot) (fun cs b => hsel i oi cs b hi) (fun cs b => hsel j oj cs b hoj) hQ hy h1
      have hfree' : ∀ k ok, ops[k]? = some ok → k ≠ i → (listed.setIfInBounds j true).getD k true = false →
          (∀ e ∈ ok.after, Region.binds md e = true → e.on ≠ i) → oi.apart ops ok = true := fun k ok hk hki hun hno => by
        refine hfree k ok hk hki ?_ hno
        by_cases hjk : j = k
        · subst hjk; exact hjun
        · rw [getD_set_ne true hjk] at hun; exact hun
      refine wpOp_mono (fun a' w' h3 => ?_) h2
      have hl' : (listed.setIfInBounds j true).getD k false = false := by rw [setD_ne hjk]; exact hl
      have hS' : S w' := h3.2.1 (by rw [setD_ne hjk, setD_ne hik]; exact hl)
      refine ⟨fun _ => hS', ih (listed.setIfInBounds j true) a' w' hfree' (ready_mono hr (Ne.symm hji)) h3.1 hS' hl' ?_⟩
      rw [Array.setIfInBounds_comm _ _ hji]
      exact h3.2.2

/-- An operation that yields its value in whatever world. -/
theorem wpAnyK_pure {i : Nat} {oi : Oper} {v : Value} (hi : ops[i]? = some oi) (hsel : ∀ (j : Nat) (o : Oper) cs b, ops[j]? = some o → o.op ≠ .select cs b)
    (hQ : ∀ c a w, Q (.panic c) (a.put oi.dst v) w → Q (.panic c) a w) (hik : i ≠ k) :
    ∀ (fuel : Nat) (listed : Array Bool) (a : Act) (w : World),
      (∀ j oj, ops[j]? = some oj → j ≠ i → listed.getD j true = false → (∀ e ∈ oj.after, Region.binds md e = true → e.on ≠ i) → oi.apart ops oj = true) →
      i ∈ Region.ready md ops listed → YieldsIf P ops (fun _ => True) oi v a → (listed.getD k false = false → S w) →
      wpAnyK ro P md ops Q S k fuel (listed.setIfInBounds i true) (a.put oi.dst v) w → wpAnyK ro P md ops Q S k (fuel + 1) listed a w := by
  intro fuel
  induction fuel with
  | zero =>
    intro listed a w _ hr hy hS H
    refine ⟨fun h => (by rw [h] at hr; cases hr), fun j hj => ?_⟩
    by_cases hji : j = i
    · subst hji; exact YieldsIf_wpOp hi hy trivial ⟨fun h => hS (by rw [setD_ne hik] at h; exact h), H⟩
    · have := ready_mono hj hji
      rw [H.1] at this
      cases this
  | succ fuel ih =>
    intro listed a w hfree hr hy hS H
    refine ⟨fun h => (by rw [h] at hr; cases hr), fun j hj => ?_⟩
    by_cases hji : j = i
    · subst hji; exact YieldsIf_wpOp hi hy trivial ⟨fun h => hS (by rw [setD_ne hik] at h; exact h), H⟩
    · have h1 := H.2 j (ready_mono hj hji)
      obtain ⟨hjun, oj, hoj, hall⟩ := mem_ready.1 hj
      have hnot : ∀ e ∈ oj.after, Region.binds md e = true → e.on ≠ i := fun e he hb heq => by
        have h1 := hall e he hb
        have h0 := (mem_ready.1 hr).1
        rw [heq] at h1
        rcases Nat.lt_or_ge i listed.size with h' | h'
        · simp [h'] at h0 h1; rw [h0] at h1; cases h1
        · simp [Array.getElem?_eq_none h'] at h1
      have h2 := wpOp_putIf hoj (hfree j oj hoj hji hjun hnot) (fun cs b => hsel i oi cs b hi) (fun cs b => hsel j oj cs b hoj) hQ hy h1
      have hfree' : ∀ k ok, ops[k]? = some ok → k ≠ i → (listed.setIfInBounds j true).getD k true = false →
          (∀ e ∈ ok.after, Region.binds md e = true → e.on ≠ i) → oi.apart ops ok = true := fun k ok hk hki hun hno => by
        refine hfree k ok hk hki ?_ hno
        by_cases hjk : j = k
        · subst hjk; exact hjun
        · rw [getD_set_ne true hjk] at hun; exact hun
      refine wpOp_mono (fun a' w' h3 => ?_) h2
      have hS' : (listed.setIfInBounds j true).getD k false = false → S w' := fun h => h3.2.1 (by
        rw [Array.setIfInBounds_comm _ _ (Ne.symm hji), setD_ne hik]; exact h)
      refine ⟨hS', ih (listed.setIfInBounds j true) a' w' hfree' (ready_mono hr (Ne.symm hji)) h3.1 hS' ?_⟩
      rw [Array.setIfInBounds_comm _ _ hji]
      exact h3.2.2

theorem takeK {i : Nat} {oi : Oper} {dst : Option Tmp} {v : Value} {fuel : Nat} {listed : Array Bool} {a : Act} {w : World} (hi : ops[i]? = some oi) (hd : oi.dst = dst)
    (hs : Region.noSelect ops = true) (hf : Region.free md ops listed i = true) (hr : (Region.ready md ops listed).contains i = true) (hk : waitsB md ops k i = true) (hl : listed.getD k false = false)
    (hQ : ∀ c a w, Q (.panic c) (a.put oi.dst v) w → Q (.panic c) a w) (hS : S w) (hy : YieldsIf P ops S oi v a)
    (h : wpAnyK ro P md ops Q S k fuel (listed.setIfInBounds i true) (a.put dst v) w) : wpAnyK ro P md ops Q S k (fuel + 1) listed a w :=
  wpAnyK_first hi (Region.noSelect_spec hs) hQ (waits_spec hk) fuel listed a w (Region.free_spec hi hf) (by simpa using hr) hy hS hl (by rw [hd]; exact h)
theorem takeP {i : Nat} {oi : Oper} {dst : Option Tmp} {v : Value} {fuel : Nat} {listed : Array Bool} {a : Act} {w : World} (hi : ops[i]? = some oi) (hd : oi.dst = dst)
    (hs : Region.noSelect ops = true) (hf : Region.free md ops listed i = true) (hr : (Region.ready md ops listed).contains i = true) (hik : i ≠ k)
    (hQ : ∀ c a w, Q (.panic c) (a.put oi.dst v) w → Q (.panic c) a w) (hS : listed.getD k false = false → S w) (hy : YieldsIf P ops (fun _ => True) oi v a)
    (h : wpAnyK ro P md ops Q S k fuel (listed.setIfInBounds i true) (a.put dst v) w) : wpAnyK ro P md ops Q S k (fuel + 1) listed a w :=
  wpAnyK_pure hi (Region.noSelect_spec hs) hQ hik fuel listed a w (Region.free_spec hi hf) (by simpa using hr) hy hS (by rw [hd]; exact h)
theorem doneK {listed : Array Bool} {a : Act} {w : World} (hr : Region.ready md ops listed = []) (h : Q .normal a w) : ∀ fuel, wpAnyK ro P md ops Q S k fuel listed a w
  | 0 => ⟨hr, h⟩
  | _ + 1 => ⟨fun _ => h, by rw [hr]; simp⟩
theorem wpAnyK_in (hn : ∀ (i : Nat) o, ops[i]? = some o → nodf o.op = true) : ∀ (fuel : Nat) (listed : Array Bool) (a : Act) (w : World), wpAnyK ro P md ops Q S k fuel listed a w → wpAnyIn (Wd ro) 0 P md ops Q fuel listed a w
  | 0, _, _, _, h => h
  | fuel + 1, listed, a, w, h => ⟨h.1, fun i hi => by
      have h2 := h.2 i hi
      unfold wpOp at h2
      unfold wpOpIn
      cases ho : ops[i]? with
      | none => rw [ho] at h2; exact wpAnyK_in hn fuel _ a w h2.2
      | some o =>
        rw [ho] at h2
        by_cases hw : Region.wanted o (yielded ops a.tmps) = true
        · simp only [hw, if_true] at h2 ⊢
          exact (opw_mono (fun a' w' h' => wpAnyK_in hn fuel _ a' w' h'.2) h2).wpIn (hn i o ho)
        · simp only [hw] at h2 ⊢
          exact ⟨fun _ _ => trivial, wpAnyK_in hn fuel _ _ _ h2.2⟩⟩
theorem nodfs_spec {l : List Oper} (h : nodfs l = true) : ∀ (i : Nat) o, l.toArray[i]? = some o → nodf o.op = true := fun i o ho => by
  have : o ∈ l := List.mem_of_getElem? (by simpa using ho)
  exact List.all_eq_true.1 h o this
end
section
variable {ro : Option Nat} {D : List Nat} {P : Program} {l : List Oper} {Q : Exit → Act → World → Prop} {S : World → Prop} {K : Act → World → Prop} {m : List (Nat × Value)} {n d k i fuel : Nat} {a : Act} {w : World} {op : Op} {ty : TypeId} {pos : String} {af : Array Edge} {g : Option (Nat × Bool)} {v : Value} {listed : Array Bool}
theorem yl_run {o : Oper} (hF : Fr D m n a) (hy : Yl P S op m v) (hS : S w) (ho : o.op = op) : (execOp a.eval o).run P w = .ok (.value v) w := by
  have := hy o n { a with defers := [] } w ho hF.fr hS
  rw [eval_df] at this
  exact this
theorem dx_region {T : World → Prop} {id : Nat} (k : Nat) (hm : P.follows .mixedOrders = true) (hT : T w.drew) (_hS : ∀ w, T w → S w) (h : ∀ w, T w → wpAnyK ro P .any l.toArray Q S k l.length (Array.replicate l.length false) a w) (hn : nodfs l = true := by kernel_rfl) : (Code.region id l.toArray true).wpIn (Wd ro) 0 P Q a w :=
  wpIn_region_any hm (wpAnyK_in (S := S) (k := k) (nodfs_spec hn) _ _ _ _ (by simpa using h _ hT))
/-- An operation that reads, taken ahead of the others; number k waits for it. -/
theorem dx_k (hF : Fr D m n a) (ho : l[i]? = some ⟨some d, op, ty, pos, af, g⟩) (hs : Region.noSelect l.toArray = true) (hf : Region.free .any l.toArray listed i = true) (hr : (Region.ready .any l.toArray listed).contains i = true) (hk : waitsB .any l.toArray k i = true) (hl : listed.getD k false = false)
    (hQ : ∀ c a w, Q (.panic c) (a.put (some d) v) w → Q (.panic c) a w) (hS : S w) (hy : Yl P S op m v) (hd : Nat.blt d n = true) (hg : want l m g = some true) (h : ∀ a', Fr D ((d, v) :: m) n a' → wpAnyK ro P .any l.toArray Q S k fuel (listed.setIfInBounds i true) a' w) : wpAnyK ro P .any l.toArray Q S k (fuel + 1) listed a w :=
  takeK (opl ho) rfl hs hf hr hk hl hQ hS (.inl ⟨wanted_of hF hg, fun _w' h' => yl_run hF hy h' rfl⟩) (h _ (hF.put hd v))
/-- One that yields in whatever world. -/
theorem dx_p (hF : Fr D m n a) (ho : l[i]? = some ⟨some d, op, ty, pos, af, g⟩) (hs : Region.noSelect l.toArray = true) (hf : Region.free .any l.toArray listed i = true) (hr : (Region.ready .any l.toArray listed).contains i = true) (hik : i ≠ k)
    (hQ : ∀ c a w, Q (.panic c) (a.put (some d) v) w → Q (.panic c) a w) (hS : listed.getD k false = false → S w) (hy : Yl P (fun _ => True) op m v) (hd : Nat.blt d n = true) (hg : want l m g = some true) (h : ∀ a', Fr D ((d, v) :: m) n a' → wpAnyK ro P .any l.toArray Q S k fuel (listed.setIfInBounds i true) a' w) : wpAnyK ro P .any l.toArray Q S k (fuel + 1) listed a w :=
  takeP (opl ho) rfl hs hf hr hik hQ hS (.inl ⟨wanted_of hF hg, fun _w' _ => yl_run hF hy trivial rfl⟩) (h _ (hF.put hd v))
/-- One whose guard says no. -/
theorem dx_off (hF : Fr D m n a) (ho : l[i]? = some ⟨some d, op, ty, pos, af, g⟩) (hs : Region.noSelect l.toArray = true) (hf : Region.free .any l.toArray listed i = true) (hr : (Region.ready .any l.toArray listed).contains i = true) (hik : i ≠ k)
    (hQ : ∀ c a w, Q (.panic c) (a.put (some d) undef) w → Q (.panic c) a w) (hS : listed.getD k false = false → S w) (hd : Nat.blt d n = true) (hg : want l m g = some false) (h : ∀ a', Fr D ((d, undef) :: m) n a' → wpAnyK ro P .any l.toArray Q S k fuel (listed.setIfInBounds i true) a' w) : wpAnyK ro P .any l.toArray Q S k (fuel + 1) listed a w :=
  takeP (opl ho) rfl hs hf hr hik hQ hS (.inr ⟨wanted_of hF hg, rfl⟩) (h _ (hF.put hd undef))
theorem dx_one (hr : Region.ready .any l.toArray listed = [i]) (h : wpOp ro P l.toArray Q i (fun a' w' => ((listed.setIfInBounds i true).getD k false = false → S w') ∧ wpAnyK ro P .any l.toArray Q S k fuel (listed.setIfInBounds i true) a' w') a w) : wpAnyK ro P .any l.toArray Q S k (fuel + 1) listed a w := by
  refine ⟨fun h0 => (by rw [hr] at h0; cases h0), fun j hj => ?_⟩
  rw [hr] at hj
  simp only [List.mem_singleton] at hj
  subst hj
  exact h
theorem dx_two {j : Nat} (hr : Region.ready .any l.toArray listed = [i, j]) (h : wpOp ro P l.toArray Q i (fun a' w' => ((listed.setIfInBounds i true).getD k false = false → S w') ∧ wpAnyK ro P .any l.toArray Q S k fuel (listed.setIfInBounds i true) a' w') a w)
    (h' : wpOp ro P l.toArray Q j (fun a' w' => ((listed.setIfInBounds j true).getD k false = false → S w') ∧ wpAnyK ro P .any l.toArray Q S k fuel (listed.setIfInBounds j true) a' w') a w) : wpAnyK ro P .any l.toArray Q S k (fuel + 1) listed a w := by
  refine ⟨fun h0 => (by rw [hr] at h0; cases h0), fun q hq => ?_⟩
  rw [hr] at hq
  simp only [List.mem_cons, List.not_mem_nil, or_false] at hq
  rcases hq with rfl | rfl
  · exact h
  · exact h'
theorem dx_three {j j2 : Nat} (hr : Region.ready .any l.toArray listed = [i, j, j2]) (h : wpOp ro P l.toArray Q i (fun a' w' => ((listed.setIfInBounds i true).getD k false = false → S w') ∧ wpAnyK ro P .any l.toArray Q S k fuel (listed.setIfInBounds i true) a' w') a w)
    (h' : wpOp ro P l.toArray Q j (fun a' w' => ((listed.setIfInBounds j true).getD k false = false → S w') ∧ wpAnyK ro P .any l.toArray Q S k fuel (listed.setIfInBounds j true) a' w') a w)
    (h2 : wpOp ro P l.toArray Q j2 (fun a' w' => ((listed.setIfInBounds j2 true).getD k false = false → S w') ∧ wpAnyK ro P .any l.toArray Q S k fuel (listed.setIfInBounds j2 true) a' w') a w) : wpAnyK ro P .any l.toArray Q S k (fuel + 1) listed a w := by
  refine ⟨fun h0 => (by rw [hr] at h0; cases h0), fun q hq => ?_⟩
  rw [hr] at hq
  simp only [List.mem_cons, List.not_mem_nil, or_false] at hq
  rcases hq with rfl | rfl | rfl
  · exact h
  · exact h'
  · exact h2
theorem dx_four {j j2 j3 : Nat} (hr : Region.ready .any l.toArray listed = [i, j, j2, j3]) (h : wpOp ro P l.toArray Q i (fun a' w' => ((listed.setIfInBounds i true).getD k false = false → S w') ∧ wpAnyK ro P .any l.toArray Q S k fuel (listed.setIfInBounds i true) a' w') a w)
    (h' : wpOp ro P l.toArray Q j (fun a' w' => ((listed.setIfInBounds j true).getD k false = false → S w') ∧ wpAnyK ro P .any l.toArray Q S k fuel (listed.setIfInBounds j true) a' w') a w)
    (h2 : wpOp ro P l.toArray Q j2 (fun a' w' => ((listed.setIfInBounds j2 true).getD k false = false → S w') ∧ wpAnyK ro P .any l.toArray Q S k fuel (listed.setIfInBounds j2 true) a' w') a w)
    (h3 : wpOp ro P l.toArray Q j3 (fun a' w' => ((listed.setIfInBounds j3 true).getD k false = false → S w') ∧ wpAnyK ro P .any l.toArray Q S k fuel (listed.setIfInBounds j3 true) a' w') a w) : wpAnyK ro P .any l.toArray Q S k (fuel + 1) listed a w := by
  refine ⟨fun h0 => (by rw [hr] at h0; cases h0), fun q hq => ?_⟩
  rw [hr] at hq
  simp only [List.mem_cons, List.not_mem_nil, or_false] at hq
  rcases hq with rfl | rfl | rfl | rfl
  · exact h
  · exact h'
  · exact h2
  · exact h3
theorem op_ef {R : Value → World → Prop} (hF : Fr D m n a) (ho : l[i]? = some ⟨some d, op, ty, pos, af, g⟩) (hd : Nat.blt d n = true) (hg : want l m g = some true) (he : Ef P op m w R) (h : ∀ v w' a', R v w' → Fr D ((d, v) :: m) n a' → K a' w') : wpOp ro P l.toArray Q i K a w := by
  unfold wpOp
  rw [opl ho]
  show (if Region.wanted _ (yielded l.toArray a.tmps) = true then _ else _)
  rw [if_pos (wanted_of (l := l) (c := true) hF hg)]
  exact opw_ef hF rfl he fun v w' hR => h v w' _ hR (hF.put hd v)
theorem op_ef0 {R : Value → World → Prop} (hF : Fr D m n a) (ho : l[i]? = some ⟨none, op, ty, pos, af, g⟩) (hg : want l m g = some true) (he : Ef P op m w R) (h : ∀ v w', R v w' → K a w') : wpOp ro P l.toArray Q i K a w := by
  unfold wpOp
  rw [show l.toArray[i]? = _ by simpa using ho]
  show (if Region.wanted _ (yielded l.toArray a.tmps) = true then _ else _)
  rw [if_pos (wanted_of (l := l) (c := true) hF hg)]
  exact opw_ef hF rfl he fun v w' hR => h v w' hR
theorem op_y (hF : Fr D m n a) (ho : l[i]? = some ⟨some d, op, ty, pos, af, g⟩) (hd : Nat.blt d n = true) (hg : want l m g = some true) (hS : S w) (hy : Yl P S op m v) (h : ∀ a', Fr D ((d, v) :: m) n a' → K a' w) : wpOp ro P l.toArray Q i K a w := by
  unfold wpOp
  rw [opl ho]
  show (if Region.wanted _ (yielded l.toArray a.tmps) = true then _ else _)
  rw [if_pos (wanted_of (l := l) (c := true) hF hg)]
  exact opw_y hF rfl hS hy (h _ (hF.put hd v))
theorem op_off (hF : Fr D m n a) (ho : l[i]? = some ⟨some d, op, ty, pos, af, g⟩) (hd : Nat.blt d n = true) (hg : want l m g = some false) (h : ∀ a', Fr D ((d, undef) :: m) n a' → K a' w) : wpOp ro P l.toArray Q i K a w := by
  unfold wpOp
  rw [opl ho]
  show (if Region.wanted _ (yielded l.toArray a.tmps) = true then _ else _)
  rw [if_neg (by rw [wanted_of (l := l) (c := false) hF hg]; simp)]
  exact h _ (hF.put hd undef)
theorem op_call {f : FuncId} {fn : Func} {xs : Array Operand} {ts : Array TypeId} {vs : List Value} {R : Ending → World → Prop} (hF : Fr D m n a) (ho : l[i]? = some ⟨some d, .call { callee := .value (.func f), args := xs, argTypes := ts }, ty, pos, af, g⟩) (hf : P.funcs[f]? = some fn) (hn : (fn.name == "runtime.NumGoroutine") = false) (hb : fn.body.isNone = false) (hx : evs m xs.toList = some vs) (hc : Calls P f vs.toArray w R) (hd : Nat.blt d n = true) (hg : want l m g = some true)
    (h : ∀ e w', R e w' → ∃ v, e = .returned v ∧ ∀ a', Fr D ((d, v) :: m) n a' → K a' w') : wpOp ro P l.toArray Q i K a w :=
  op_ef hF ho hd hg (ef_call hf hn hb hx hc (R' := fun v w' => ∀ a', Fr D ((d, v) :: m) n a' → K a' w') h) fun _ _ _ hR hF' => hR _ hF'
theorem dx_done (hr : Region.ready .any l.toArray listed = []) (h : Q .normal a w) : wpAnyK ro P .any l.toArray Q S k fuel listed a w := doneK hr h fuel
end

/-! ### Control -/
section
variable {ro : Option Nat} {D : List Nat} {P : Program} {Q : Exit → Act → World → Prop} {a : Act} {w : World} {m : List (Nat × Value)} {n : Nat}
theorem wp_seq {x y : Code} (h : x.wpIn (Wd ro) 0 P (Exit.then (y.wpIn (Wd ro) 0 P Q) Q) a w) : (Code.seq x y).wpIn (Wd ro) 0 P Q a w := wpIn_seq h
theorem wp_skip (h : Q .normal a w) : Code.skip.wpIn (Wd ro) 0 P Q a w := wpIn_skip h
theorem wp_ret (h : Q .ret a w) : Code.ret.wpIn (Wd ro) 0 P Q a w := wpIn_ret h
theorem wp_exit {i : Nat} (h : Q (.exit i) a w) : (Code.exit i).wpIn (Wd ro) 0 P Q a w := wpIn_exit h
theorem wp_block {i : Nat} {c : Code} (h : c.wpIn (Wd ro) 0 P (Exit.inBlock i Q) a w) : (Code.block i c).wpIn (Wd ro) 0 P Q a w := wpIn_block h
theorem cx_true {c : Operand} {x y : Code} (hF : Fr D m n a) (hc : ev m c = some (.bool true)) (h : x.wpIn (Wd ro) 0 P Q a w) : (Code.cond c x y).wpIn (Wd ro) 0 P Q a w := wpIn_cond_true (hF.eval hc) h
theorem cx_false {c : Operand} {x y : Code} (hF : Fr D m n a) (hc : ev m c = some (.bool false)) (h : y.wpIn (Wd ro) 0 P Q a w) : (Code.cond c x y).wpIn (Wd ro) 0 P Q a w := wpIn_cond_false (hF.eval hc) h
theorem cx_split {c : Operand} {x y : Code} {b : Bool} (hF : Fr D m n a) (hc : ev m c = some (.bool b)) (ht : b = true → x.wpIn (Wd ro) 0 P Q a w) (hf : b = false → y.wpIn (Wd ro) 0 P Q a w) : (Code.cond c x y).wpIn (Wd ro) 0 P Q a w := wpIn_cond_split (hF.eval hc) ht hf
theorem cx_loop (_ : Fr D m n a) {c : Code} (I : List (Nat × Value) → Nat → Act → World → Prop) (h0 : ∃ d, I m d a w)
    (round : ∀ d a w, I m d a w → c.wpIn (Wd ro) 0 P (Exit.then (fun a' w' => ∃ d', d' < d ∧ I m d' a' w') Q) a w) : (Code.loop c).wpIn (Wd ro) 0 P Q a w := by
  intro b k cs hro hb hr
  have key : ∀ d a w, I m d a w → ∃ e a' w', Q e a' w' ∧ ArrivesIn (Machine.fenced P (Wd ro)) P (lone (b.atR a (.code c :: .inLoop c :: k)) cs w) b k cs e a' w' := by
    intro d
    induction d using Nat.strongRecOn with
    | _ d ih =>
      intro a w hI
      obtain ⟨e, a₁, w₁, hq, harr⟩ := round d a w hI b (.inLoop c :: k) cs hro hb hr
      cases e with
      | normal =>
        obtain ⟨d', hlt, hI₁⟩ := hq
        obtain ⟨e₂, a₂, w₂, hq₂, harr₂⟩ := ih d' hlt a₁ w₁ hI₁
        exact ⟨e₂, a₂, w₂, hq₂, .of_steps (StepsIn.trans harr (.one (fenced_calm hb hr rfl) stepR_inLoop)) harr₂⟩
      | exit id => exact ⟨_, a₁, w₁, hq, .pass (x := .inLoop c) rfl (fun _ _ => .inl (by simp)) harr⟩
      | goto l => exact ⟨_, a₁, w₁, hq, .pass (x := .inLoop c) rfl (fun _ _ => .inl (by simp)) harr⟩
      | ret => exact ⟨_, a₁, w₁, hq, .pass (x := .inLoop c) rfl (fun _ _ => .inl (by simp)) harr⟩
      | panic ch => exact ⟨_, a₁, w₁, hq, .pass (x := .inLoop c) rfl (fun _ _ => .inl (by simp)) harr⟩
      | outgrown => exact ⟨_, a₁, w₁, hq, .pass (x := .inLoop c) rfl (fun _ _ => .inl (by simp)) harr⟩
  obtain ⟨d0, h0⟩ := h0
  obtain ⟨e, a', w', hq, harr⟩ := key _ a w h0
  exact ⟨e, a', w', hq, .of_steps (.one (fenced_calm hb hr rfl) stepR_loop) harr⟩
theorem dx_join {F : List Nat} {w0 : World} {L : List Bk} {R : List Rw} {c : Code} (_ : Fr D m n a) (_ : St F w0 L R w) (I : List (Nat × Value) → List Bk → List Rw → Act → World → Prop) (hJ : ∀ a w, I m L R a w → Q .normal a w) (h : (∀ a w, I m L R a w → Q .normal a w) → c.wpIn (Wd ro) 0 P Q a w) : c.wpIn (Wd ro) 0 P Q a w := h hJ
end

/-! ### What a call has made, at another world -/
section
variable {F : List Nat} {w0 : World} {L : List Bk} {R : List Rw} {w w' : World}
theorem _root_.Go.Proofs.YtgfppmnpccaloaaDoor.St.at' {G : List Nat} (h : St F w0 L R w) (k : Kp G w w') (hG : ∀ x ∈ G, x ∉ ids L R) : St (ids L R) w' L R w' :=
  ⟨Kp.refl _ _, fun b hb => by rw [k.block b.g (h.lt _ (mem_blk hb)) (fun hh => hG _ hh (mem_blk hb))]; exact h.blk b hb,
   fun r hr => own_kept (h.row r hr) k (by rw [rowF_slice]; exact fun x hx hh => hG x hh (mem_row hr hx)), fun x hx => .inr hx, h.nd⟩
theorem _root_.Go.Proofs.YtgfppmnpccaloaaDoor.St.rebase (h : St F w0 L R w) : St (ids L R) w L R w := h.at' (Kp.refl [] w) (by simp)
theorem _root_.Go.Proofs.YtgfppmnpccaloaaDoor.St.back {F1 : List Nat} {wb : World} (h : St F1 wb L R w) (hs : w0.heap.size ≤ wb.heap.size) (hF : ∀ x ∈ F1, w0.heap.size ≤ x ∨ x ∈ F) (hk : Kp F w0 w) : St F w0 L R w :=
  ⟨hk, h.blk, h.row, fun x hx => by rcases h.new x hx with h1 | h1; exact .inl (Nat.le_trans hs h1); exact hF x h1, h.nd⟩
theorem _root_.Go.Proofs.YtgfppmnpccaloaaDoor.St.noObj (h : St F w0 L R w) {b : Nat} {o : Obj} (ho : w.heap[b]? = some o) (hc : ∀ c t f, o ≠ .cells c t f) : b ∉ ids L R := by
  intro hb
  simp only [ids, List.mem_append, List.mem_map, List.mem_flatMap] at hb
  rcases hb with ⟨x, hx, rfl⟩ | ⟨r, hr, hx⟩
  · rw [h.blk x hx] at ho; exact hc _ _ _ (Option.some.inj ho).symm
  · rcases (h.row r hr).2 with ⟨h1, _⟩ | ⟨g, cap, cur, h1, hb, hg, _⟩
    · simp only [Value.slice.injEq] at h1; rw [h1.1] at hx; simp [aF] at hx
    · simp only [Value.slice.injEq] at h1
      rw [h1.1] at hx
      simp only [aF, List.mem_singleton] at hx
      subst hx
      rw [hg] at ho
      exact hc _ _ _ (Option.some.inj ho).symm
theorem kp_put (w : World) (b : Nat) (o : Obj) : Kp [b] w (w.putObj b o) :=
  ⟨rfl, rfl, rfl, by simp, fun k _ hk => World.putObj_heap_other (by simpa using hk)⟩
end

/-! ### Calls, and the way out -/
section
variable {P : Program} {fn : Func} {Rr : Ending → World → Prop} {w0 w : World} {F : List Nat} {L : List Bk} {R : List Rw}
theorem calls_st {f : FuncId} {c : Code} {args : List Value} (hf : P.funcs[f]? = some fn) (hb : fn.body = some c) {n : Nat} (hn : fn.ntmps = n) (hle : Nat.ble args.length n = true)
    (h : ∀ a w, Fr [] (numbered 0 args) n a → St F w0 [] [] w → c.wpIn (Wd none) 0 P (bodyPostM (Wd none) 0 P fn Rr) a w) : Calls P f args.toArray w0 Rr := by
  refine callsIn_wide.1 (callsIn_of_wp_marks (F := Wd none) (n := 0) hf hb trivial (h _ w0 (Fr.of ?_) (St.start F w0)) rfl)
  have := Go.Proofs.YtgfppmnpccaloaaDoor.Fr.enter (m := numbered 0 args) (n := n) (args := args) (fun k v hk => by have := (lk_numbered args 0 k v hk).2; simpa using this) (by simpa using hle)
  rw [hn]
  exact this
theorem callsIn_st {f : FuncId} {c : Code} {args : List Value} (hf : P.funcs[f]? = some fn) (hb : fn.body = some c) {n : Nat} (hn : fn.ntmps = n) (hle : Nat.ble args.length n = true)
    (h : ∀ a w, Fr [] (numbered 0 args) n a → St F w0 [] [] w → c.wpIn (Wd none) 0 P (bodyPostM (Wd none) 0 P fn Rr) a w) : CallsIn (Wd none) 0 P f args.toArray w0 Rr := callsIn_wide.2 (calls_st hf hb hn hle h)
theorem bp_n {a : Act} (h : bodyPostM (Wd none) 0 P fn Rr .ret a w) : bodyPostM (Wd none) 0 P fn Rr .normal a w := h
theorem leave {D : List Nat} {m : List (Nat × Value)} {n : Nat} {a : Act} (hF : Fr D m n a) (HM : ∀ b ∈ D, w.heap[b]? = some (.deferred (some [])) ∧ w0.heap.size ≤ b) (HS : St F w0 L R w)
    (h : ∀ w', St F w0 L R w' → bodyPost P fn Rr .ret { a with defers := [] } w') : bodyPostM (Wd none) 0 P fn Rr .ret a w := by
  show LeavesInM (Wd none) 0 P fn a.tmps Rr a.defers .returning w
  rw [hF.df]
  have hnd := hF.nd
  clear hF
  induction D generalizing w with
  | nil => exact (h w HS).2
  | cons b D ih =>
    obtain ⟨h1, h2⟩ := HM b List.mem_cons_self
    have hnb := HS.noObj h1 (by simp)
    refine ⟨by simp, .inl ⟨b, _, rfl, run_takeDeferred h1, ih (fun x hx => ?_) (HS.kept (kp_put w b _) (by simpa using hnb) (by simp; omega)) (List.nodup_cons.1 hnd).2⟩⟩
    obtain ⟨h3, h4⟩ := HM x (List.mem_cons_of_mem _ hx)
    refine ⟨?_, h4⟩
    rw [World.putObj_heap_other (by rintro rfl; exact (List.nodup_cons.1 hnd).1 hx)]
    exact h3
theorem leave0 {m : List (Nat × Value)} {n : Nat} {a : Act} (hF : Fr [] m n a) (h : bodyPost P fn Rr .ret { a with defers := [] } w) : bodyPostM (Wd none) 0 P fn Rr .ret a w := by
  show LeavesInM (Wd none) 0 P fn a.tmps Rr a.defers .returning w
  rw [hF.df]
  exact h.2
end

/-! ### The range over a function -/
/-- What abides the iterator's own steps. -/
def StJ (B : Nat) (J : Nat → List Nat → World → Prop) : Prop :=
  (∀ k G W W' H, J k G W → Kp H W W' → (∀ x ∈ H, x ∉ G ∧ B ≤ x) → J k G W') ∧ ∀ k G W, J k G W → ∀ x ∈ G, x < W.heap.size
/-- The iterator's contract: it calls yield N times, with these arguments, one after the other, if no round stops it; it reads the blocks Rs. -/
def Iter (P : Program) (g : FuncId) (lb : List Value) (args : Nat → List Value) (N : Nat) (Rs : List Nat) (W0 : World) : Prop :=
  ∀ (l : Nat) (J Jx : Nat → List Nat → World → Prop) (G0 : List Nat), StJ W0.heap.size J → StJ W0.heap.size Jx → (∀ x ∈ G0, x ∉ Rs) → J 0 G0 W0 →
    (∀ k G W, k < N → J k G W → YieldAt (Wd none) 0 P l (args k).toArray W fun e W' => (e = .returned (.bool true) ∧ ∃ G', J (k + 1) G' W' ∧ Adv G G' W W') ∨ (e = .returned (.bool false) ∧ ∃ G', Jx k G' W')) →
    CallsIn (Wd none) 0 P g (.func (.yield l) #[] #[] :: lb).toArray W0 fun e W' => (∃ v, e = .returned v) ∧ ((∃ G, J N G W') ∨ ∃ k G, k < N ∧ Jx k G W')
/-- yield's arguments in their slots. -/
noncomputable def slots (ps : List Nat) (vs : List Value) (m : List (Nat × Value)) : List (Nat × Value) := List.rec (motive := fun _ => List Value → List (Nat × Value) → List (Nat × Value)) (fun _ m => m) (fun p _ ih vs m => List.casesOn (motive := fun _ => List (Nat × Value)) vs m (fun v vs => ih vs ((p, v) :: m))) ps vs m
theorem fr_slots {n : Nat} : ∀ (ps : List Nat) (vs : List Value) (m : List (Nat × Value)) (t : Array Value), (ps.all fun p => Nat.blt p n) = true → Go.Proofs.YtgfppmnpccaloaaDoor.Fr m n { tmps := t, defers := [] } →
    Go.Proofs.YtgfppmnpccaloaaDoor.Fr (slots ps vs m) n { tmps := (ps.zip vs).foldl (fun t p => t.setIfInBounds p.1 p.2) t, defers := [] }
  | [], _, _, _, _, h => h
  | p :: ps, [], _, _, _, h => h
  | p :: ps, v :: vs, m, t, hp, h => by
    rw [List.all_cons, Bool.and_eq_true] at hp
    exact fr_slots ps vs ((p, v) :: m) (t.setIfInBounds p v) hp.2 (h.put hp.1 v)
/-- How a round may end. -/
def roundQ (Inv : Nat → List Bk → List Rw → Prop) (Ix : Code → List Bk → List Rw → Prop) (k : Nat) (F : List Nat) (wb : World) : Exit → Act → World → Prop
  | .normal, _, w => ∃ L R, Inv (k + 1) L R ∧ St F wb L R w
  | .ret, _, w => ∃ L R, Ix .ret L R ∧ St F wb L R w
  | .exit i, _, w => ∃ L R, Ix (.exit i) L R ∧ St F wb L R w
  | _, _, _ => False
theorem rq_n {Inv : Nat → List Bk → List Rw → Prop} {Ix : Code → List Bk → List Rw → Prop} {k : Nat} {F : List Nat} {wb w : World} {a : Act} (h : ∃ L R, Inv (k + 1) L R ∧ St F wb L R w) : roundQ Inv Ix k F wb .normal a w := h
theorem rq_r {Inv : Nat → List Bk → List Rw → Prop} {Ix : Code → List Bk → List Rw → Prop} {k : Nat} {F : List Nat} {wb w : World} {a : Act} (h : ∃ L R, Ix .ret L R ∧ St F wb L R w) : roundQ Inv Ix k F wb .ret a w := h
theorem rq_x {Inv : Nat → List Bk → List Rw → Prop} {Ix : Code → List Bk → List Rw → Prop} {k i : Nat} {F : List Nat} {wb w : World} {a : Act} (h : ∃ L R, Ix (.exit i) L R ∧ St F wb L R w) : roundQ Inv Ix k F wb (.exit i) a w := h
/-- The blocks of the marks are as they were laid. -/
def Marks (B : Nat) (D : List Nat) (F : List Nat) (w : World) : Prop := ∀ w', Kp F w w' → ∀ b ∈ D, w'.heap[b]? = some (.deferred (some [])) ∧ B ≤ b
theorem Marks.nil {B : Nat} {F : List Nat} {w : World} : Marks B [] F w := fun _ _ b hb => (by cases hb)
theorem Marks.on {B : Nat} {D F : List Nat} {wb w : World} {L : List Bk} {R : List Rw} (h : Marks B D F wb) (HS : St F wb L R w) : Marks B D (ids L R) w := fun w' k b hb =>
  h w' (HS.kp.trans k fun x hx hlt => by rcases HS.new x hx with h1 | h1; omega; exact h1) b hb
section
variable {P : Program} {D : List Nat} {m : List (Nat × Value)} {n : Nat} {a : Act} {F : List Nat} {w0 w : World} {L : List Bk} {R : List Rw} {Q : Exit → Act → World → Prop}
theorem run_entry {x : Operand} {l : Nat} {g : FuncId} {gfn : Func} {lb : List Value} {w : World} (hF : Fr D m n a) (hx : ev m x = some (.func (.func g) #[] lb.toArray)) (hg : P.funcs[g]? = some gfn) (hgn : (gfn.name == "runtime.NumGoroutine") = false) (hgb : gfn.body.isNone = false) :
    ∃ d, (resolve a.eval (rangeCall x l) 0).run P w = .ok d w ∧ (invoke d.target d.args).run P w = .ok (.enter g (.func (.yield l) #[] #[] :: lb).toArray) w := by
  refine ⟨{ target := .fn (.func g) lb.toArray, args := #[.func (.yield l) #[] #[]] }, ?_, ?_⟩
  · have he := hF.eval hx
    simp only [resolve, he, Deferred.ofValue]
    rw [Sem.run_pure, show #[] ++ Array.map a.eval #[Operand.const (Value.func (Fn.yield l) #[] #[])] = #[Value.func (Fn.yield l) #[] #[]] by simp [Act.eval]]
  · show (callFunc g (#[.func (.yield l) #[] #[]] ++ lb.toArray)).run P w = _
    rw [run_enter hg hgn hgb]
    congr 2
    simp
theorem wp_range {x : Operand} {ps : Array Tmp} {assign body : Code} {g : FuncId} {gfn : Func} {lb : List Value} {args : Nat → List Value} {N : Nat} {Rs : List Nat} {B : Nat} {mr : Nat → List (Nat × Value)}
    (hF : Fr D m n a) (HS : St F w0 L R w) (HM : Marks B D (ids L R) w) (hB : B ≤ w.heap.size)
    (hx : ev m x = some (.func (.func g) #[] lb.toArray)) (hg : P.funcs[g]? = some gfn) (hgn : (gfn.name == "runtime.NumGoroutine") = false) (hgb : gfn.body.isNone = false)
    (hIt : ∀ w1, Kp [] w w1 → Iter P g lb args N Rs w1) (hRs : ∀ x ∈ ids L R, x ∉ Rs) (hRl : ∀ x ∈ Rs, x < w.heap.size)
    (hps : ∀ k, (args k).length = ps.size) (hpl : (ps.toList.all fun p => Nat.blt p n) = true) (hmr : ∀ k, slots ps.toList (args k) m = mr k)
    (Inv : Nat → List Bk → List Rw → Prop) (Ix : Code → List Bk → List Rw → Prop) (h0 : Inv 0 L R)
    (round : ∀ (lr k : Nat) (L1 : List Bk) (R1 : List Rw) (a1 : Act) (Fa : List Nat) (wb w' : World), w' = wb → Fa = ids L1 R1 → k < N → Inv k L1 R1 → Fr [] (mr k) n a1 → St Fa wb L1 R1 w' → (∀ w', Kp Fa wb w' → Kp F w0 w') →
      assign.wpIn (Wd (some lr)) 0 P (Exit.then (fun a2 w2 => ∃ m2 L2 R2, Fr [] m2 n a2 ∧ St Fa wb L2 R2 w2 ∧
        ∀ a3 Fb wb w', w' = wb → Fb = ids L2 R2 → Fr [] m2 n a3 → St Fb wb L2 R2 w' → (∀ w', Kp Fb wb w' → Kp F w0 w') → body.wpIn (Wd (some lr)) 0 P (roundQ Inv Ix k Fb wb) a3 w') (fun _ _ _ => False)) a1 w')
    (done : ∀ (Db : Nat) (L1 : List Bk) (R1 : List Rw) (a1 : Act) (Fb : List Nat) (wb w' : World), w' = wb → Fb = ids L1 R1 → Inv N L1 R1 → Fr (Db :: D) m n a1 → St Fb wb L1 R1 w' → (∀ w', Kp Fb wb w' → Kp F w0 w') → (∀ x ∈ Fb, w0.heap.size ≤ x ∨ x ∈ F) → Marks B (Db :: D) Fb wb → B ≤ wb.heap.size → Q .normal a1 w')
    (stop : ∀ (c : Code) (Db : Nat) (L1 : List Bk) (R1 : List Rw) (a1 : Act) (Fb : List Nat) (wb w' : World), w' = wb → Fb = ids L1 R1 → Ix c L1 R1 → Fr (Db :: D) m n a1 → St Fb wb L1 R1 w' → (∀ w', Kp Fb wb w' → Kp F w0 w') → (∀ x ∈ Fb, w0.heap.size ≤ x ∨ x ∈ F) → Marks B (Db :: D) Fb wb → B ≤ wb.heap.size → c.wpIn (Wd none) 0 P Q a1 w') :
    (Code.rangeFunc x ps assign body).wpIn (Wd none) 0 P Q a w := by
  refine wpIn_rangeFunc fun fn _ => ?_
  obtain ⟨Db, hDb⟩ : ∃ Db, Db = w.heap.size := ⟨_, rfl⟩
  obtain ⟨l, hl⟩ : ∃ l, l = w.heap.size + 1 := ⟨_, rfl⟩
  obtain ⟨rec, hrec⟩ : ∃ r : Loop, r = { state := .ready, pending := none, fn, tmps := a.tmps, params := ps, assign, body, defers := w.heap.size } := ⟨_, rfl⟩
  obtain ⟨w1, hw1⟩ : ∃ w1, w1 = (w.alloc (.deferred (some []))).alloc (.loop rec) := ⟨_, rfl⟩
  have k1 : Kp [] w w1 := by rw [hw1]; exact ((Kp.refl [] w).alloc _).alloc _
  have hs1 : w1.heap.size = w.heap.size + 2 := by rw [hw1]; simp
  have hl1 : w1.heap[l]? = some (.loop rec) := by rw [hw1, hl]; have := World.alloc_heap_new (w.alloc (.deferred (some []))) (.loop rec); simpa using this
  have hd1 : w1.heap[Db]? = some (.deferred (some [])) := by
    rw [hw1, hDb, Below.heap_alloc _ _ _ (by simp)]; exact World.alloc_heap_new w _
  obtain ⟨d, hres, hinv⟩ := run_entry (P := P) (l := l) (w := w1) hF hx hg hgn hgb
  refine ⟨l, [mk Db], w1, d, w1, g, _, w1, ?_, hres, fun _ _ => trivial, hinv, fun h => (by cases h), ?_⟩
  · rw [hw1, hl, hDb, hrec]; exact run_enterLoop_outer fn a.tmps ps assign body
  have HSb := HS.rebase
  have hnew : ∀ {L1 R1 W}, St (ids L R) w L1 R1 W → ∀ x ∈ ids L1 R1, w0.heap.size ≤ x ∨ x ∈ F := fun h x hx => by
    rcases h.new x hx with h1 | h1
    · exact .inl (Nat.le_trans HS.kp.size h1)
    · exact HS.new x h1
  have hback : ∀ {W}, Kp (ids L R) w W → Kp F w0 W := fun k => HS.kp.trans k fun x hx hlt => by rcases HS.new x hx with h1 | h1; omega; exact h1
  have hlR : ∀ x ∈ ids L R, x < w.heap.size := HS.lt
  refine (hIt w1 k1 l (fun k G W => ∃ L1 R1, Inv k L1 R1 ∧ St (ids L R) w L1 R1 W ∧ W.heap[l]? = some (.loop rec) ∧ W.heap[Db]? = some (.deferred (some [])) ∧ G = l :: Db :: ids L1 R1)
    (fun k G W => ∃ c L1 R1, Ix c L1 R1 ∧ St (ids L R) w L1 R1 W ∧ W.heap[l]? = some (.loop { rec with state := .done, pending := some c }) ∧ W.heap[Db]? = some (.deferred (some [])) ∧ G = l :: Db :: ids L1 R1)
    (l :: Db :: ids L R) ?_ ?_ ?_ ?_ ?_).mono ?_
  · refine ⟨?_, ?_⟩
    · rintro k G W W' H ⟨L1, R1, hi, hS, h1, h2, rfl⟩ hk hH
      have hlt := (Array.getElem?_eq_some_iff.1 h1).1
      have hdt := (Array.getElem?_eq_some_iff.1 h2).1
      refine ⟨L1, R1, hi, hS.kept hk (fun x hx hh => (hH x hx).1 (by simp [hh])) (fun x hx hlt => by have := (hH x hx).2; omega), ?_, ?_, rfl⟩
      · rw [hk.block l hlt (fun hh => (hH l hh).1 (by simp))]; exact h1
      · rw [hk.block Db hdt (fun hh => (hH Db hh).1 (by simp))]; exact h2
    · rintro k G W ⟨L1, R1, hi, hS, h1, h2, rfl⟩ x hx
      simp only [List.mem_cons] at hx
      rcases hx with rfl | rfl | hx
      · exact (Array.getElem?_eq_some_iff.1 h1).1
      · exact (Array.getElem?_eq_some_iff.1 h2).1
      · exact hS.lt x hx
  · refine ⟨?_, ?_⟩
    · rintro k G W W' H ⟨c, L1, R1, hi, hS, h1, h2, rfl⟩ hk hH
      have hlt := (Array.getElem?_eq_some_iff.1 h1).1
      have hdt := (Array.getElem?_eq_some_iff.1 h2).1
      refine ⟨c, L1, R1, hi, hS.kept hk (fun x hx hh => (hH x hx).1 (by simp [hh])) (fun x hx hlt => by have := (hH x hx).2; omega), ?_, ?_, rfl⟩
      · rw [hk.block l hlt (fun hh => (hH l hh).1 (by simp))]; exact h1
      · rw [hk.block Db hdt (fun hh => (hH Db hh).1 (by simp))]; exact h2
    · rintro k G W ⟨c, L1, R1, hi, hS, h1, h2, rfl⟩ x hx
      simp only [List.mem_cons] at hx
      rcases hx with rfl | rfl | hx
      · exact (Array.getElem?_eq_some_iff.1 h1).1
      · exact (Array.getElem?_eq_some_iff.1 h2).1
      · exact hS.lt x hx
  · intro x hx hh
    simp only [List.mem_cons] at hx
    have := hRl x hh
    rcases hx with rfl | rfl | hx
    · omega
    · omega
    · exact hRs x hx hh
  · exact ⟨L, R, h0, HSb.call k1, hl1, hd1, rfl⟩
  · rintro k G W hkN ⟨L1, R1, hi, hS, h1, h2, rfl⟩
    have hlt := (Array.getElem?_eq_some_iff.1 h1).1
    have hdt := (Array.getElem?_eq_some_iff.1 h2).1
    have hSW := hS.rebase
    have hws : w.heap.size ≤ W.heap.size := hS.kp.size
    have hl1n : l ∉ ids L1 R1 := hS.noObj h1 (by simp)
    have hd1n : Db ∉ ids L1 R1 := hS.noObj h2 (by simp)
    have hin1 : ∀ x ∈ ids L1 R1, x < w.heap.size → x ∈ ids L R := fun x hx hh => by rcases hS.new x hx with h3 | h3; omega; exact h3
    refine ⟨rec.fn, _, rec.assign, rec.body, run_yield h1 (by rw [hrec]; simpa using hps k), ?_⟩
    refine roundIn_of_wpIn (F := Wd none) trivial ?_
    have hfr : Fr [] (mr k) n { tmps := (rec.params.zip (args k).toArray).foldl (fun tmps (t, a) => tmps.setIfInBounds t a) rec.tmps, defers := [] } := by
      refine ⟨?_, rfl, List.nodup_nil⟩
      have h3 := fr_slots ps.toList (args k) m a.tmps hpl hF.fr
      rw [hmr k] at h3
      rw [hrec]
      have e : ((ps.zip (args k).toArray).foldl (fun tmps (x : Nat × Value) => tmps.setIfInBounds x.1 x.2) a.tmps) = (ps.toList.zip (args k)).foldl (fun t p => t.setIfInBounds p.1 p.2) a.tmps := by
        rw [← Array.foldl_toList]; simp
      exact e ▸ h3
    have hr := round l k L1 R1 _ _ W W rfl rfl hkN hi hfr hSW (fun w' k' => hback (hS.kp.trans k' hin1))
    have ha : rec.assign = assign := by rw [hrec]
    have hb : rec.body = body := by rw [hrec]
    rw [← ha, ← hb] at hr
    refine wpIn_mono hr ?_
    intro e a2 w2 hq
    cases e with
    | normal =>
      obtain ⟨m2, L2, R2, hF2, hS2, hbody⟩ := hq
      have hl2 : w2.heap[l]? = some (.loop rec) := by rw [hS2.kp.block l hlt hl1n]; exact h1
      have hd2 : w2.heap[Db]? = some (.deferred (some [])) := by rw [hS2.kp.block Db hdt hd1n]; exact h2
      have hl2n : l ∉ ids L2 R2 := hS2.noObj hl2 (by simp)
      have hd2n : Db ∉ ids L2 R2 := hS2.noObj hd2 (by simp)
      refine ⟨_, run_beginRound hl2 (by rw [hrec]), ?_⟩
      obtain ⟨wb, hwb⟩ : ∃ wb, wb = w2.putObj l (.loop { rec with state := .busy }) := ⟨_, rfl⟩
      rw [← hwb]
      have kb : Kp [l] w2 wb := by rw [hwb]; exact kp_put _ _ _
      have hlb : wb.heap[l]? = some (.loop { rec with state := .busy }) := by rw [hwb]; exact World.putObj_heap_same (Array.getElem?_eq_some_iff.1 hl2).1
      have hdb : wb.heap[Db]? = some (.deferred (some [])) := by rw [kb.block Db (Array.getElem?_eq_some_iff.1 hd2).1 (by simp; omega)]; exact hd2
      have hin2 : ∀ x ∈ ids L2 R2, x < W.heap.size → x ∈ ids L1 R1 := fun x hx hh => by rcases hS2.new x hx with h3 | h3; omega; exact h3
      have kWb : Kp (l :: ids L1 R1) W wb := (hS2.kp.mono (G := l :: ids L1 R1) fun x hx _ => List.mem_cons_of_mem _ hx).trans kb fun x hx _ => by simp at hx; simp [hx]
      have kWany : ∀ {w'}, Kp (ids L2 R2) wb w' → Kp (l :: ids L1 R1) W w' := fun k' => kWb.trans k' fun x hx hlt => List.mem_cons_of_mem _ (hin2 x hx hlt)
      have kwany : ∀ {w'}, Kp (ids L2 R2) wb w' → Kp (ids L R) w w' := fun k' => hS.kp.trans (kWany k') fun x hx hlt => by
        rcases List.mem_cons.1 hx with rfl | hx
        · omega
        · exact hin1 x hx hlt
      refine wpIn_mono (hbody a2 _ wb wb rfl rfl hF2 (hS2.at' kb (by simpa using hl2n)) fun w' k' => hback (kwany k')) ?_
      have fin : ∀ (L' : List Bk) (R' : List Rw) (w' : World) (o : Obj), St (ids L2 R2) wb L' R' w' → St (ids L R) w L' R' (w'.putObj l o) ∧ w'.heap[l]? = some (.loop { rec with state := .busy }) ∧ (w'.putObj l o).heap[l]? = some o ∧ (w'.putObj l o).heap[Db]? = some (.deferred (some [])) ∧ Adv (l :: Db :: ids L1 R1) (l :: Db :: ids L' R') W (w'.putObj l o) := fun L' R' w' o hS' => by
        have hl' : w'.heap[l]? = some (.loop { rec with state := .busy }) := by rw [hS'.kp.block l (Array.getElem?_eq_some_iff.1 hlb).1 hl2n]; exact hlb
        have hd' : w'.heap[Db]? = some (.deferred (some [])) := by rw [hS'.kp.block Db (Array.getElem?_eq_some_iff.1 hdb).1 hd2n]; exact hdb
        have hln' : l ∉ ids L' R' := hS'.noObj hl' (by simp)
        have hwb : w.heap.size ≤ wb.heap.size := Nat.le_trans hws kWb.size
        have hin' : ∀ x ∈ ids L' R', wb.heap.size ≤ x ∨ W.heap.size ≤ x ∨ x ∈ ids L1 R1 := fun x hx => by
          rcases hS'.new x hx with h3 | h3
          · exact .inl h3
          · exact .inr (hS2.new x h3)
        have hSw : St (ids L R) w L' R' w' := hS'.back hwb (fun x hx => by
          rcases hS2.new x hx with h3 | h3
          · exact .inl (Nat.le_trans hws h3)
          · exact hS.new x h3) (kwany hS'.kp)
        refine ⟨hSw.kept (kp_put _ _ _) (by simpa using hln') (by simp; omega), hl', World.putObj_heap_same (Array.getElem?_eq_some_iff.1 hl').1, ?_, ?_, ?_⟩
        · rw [World.putObj_heap_other (by omega)]; exact hd'
        · exact ((kWany hS'.kp).mono (G := l :: Db :: ids L1 R1) fun x hx _ => by rcases List.mem_cons.1 hx with rfl | hx; simp; simp [hx]).trans (kp_put _ _ _) fun x hx _ => by simp at hx; simp [hx]
        · intro x hx
          simp only [List.mem_cons] at hx ⊢
          rcases hx with rfl | rfl | hx
          · exact .inl (.inl rfl)
          · exact .inl (.inr (.inl rfl))
          · rcases hin' x hx with h3 | h3 | h3
            · exact .inr (Nat.le_trans kWb.size h3)
            · exact .inr h3
            · exact .inl (.inr (.inr h3))
      intro e a4 w4 hq4
      cases e with
      | normal =>
        obtain ⟨L', R', hi', hS'⟩ := hq4
        obtain ⟨f1, f2, f3, f4, f5⟩ := fin L' R' w4 (.loop rec) hS'
        refine ⟨_, _, run_endRound none f2, .inl ⟨rfl, l :: Db :: ids L' R', ⟨L', R', hi', ?_, ?_, ?_, rfl⟩, ?_⟩⟩
        all_goals (have e : ({ ({ rec with state := .busy } : Loop) with state := (if (none : Option Code).isNone then .ready else .done), pending := none } : Loop) = rec := by rw [hrec]; rfl)
        · rw [e]; exact f1
        · rw [e]; exact f3
        · rw [e]; exact f4
        · rw [e]; exact f5
      | ret =>
        obtain ⟨L', R', hi', hS'⟩ := hq4
        obtain ⟨f1, f2, f3, f4, f5⟩ := fin L' R' w4 (.loop { rec with state := .done, pending := some .ret }) hS'
        refine ⟨_, _, run_endRound (some .ret) f2, .inr ⟨rfl, l :: Db :: ids L' R', .ret, L', R', hi', ?_, ?_, ?_, rfl⟩⟩
        all_goals (have e : ({ ({ rec with state := .busy } : Loop) with state := (if (some (.ret : Code)).isNone then .ready else .done), pending := some .ret } : Loop) = { rec with state := .done, pending := some .ret } := rfl)
        · rw [e]; exact f1
        · rw [e]; exact f3
        · rw [e]; exact f4
      | exit i =>
        obtain ⟨L', R', hi', hS'⟩ := hq4
        obtain ⟨f1, f2, f3, f4, f5⟩ := fin L' R' w4 (.loop { rec with state := .done, pending := some (.exit i) }) hS'
        refine ⟨_, _, run_endRound (some (.exit i)) f2, .inr ⟨rfl, l :: Db :: ids L' R', .exit i, L', R', hi', ?_, ?_, ?_, rfl⟩⟩
        all_goals (have e : ({ ({ rec with state := .busy } : Loop) with state := (if (some ((.exit i) : Code)).isNone then .ready else .done), pending := some (.exit i) } : Loop) = { rec with state := .done, pending := some (.exit i) } := rfl)
        · rw [e]; exact f1
        · rw [e]; exact f3
        · rw [e]; exact f4
      | goto t => exact False.elim hq4
      | panic c => exact False.elim hq4
      | outgrown => exact False.elim hq4
    | exit i => exact hq
    | goto t => exact hq
    | ret => exact hq
    | panic c => exact hq
    | outgrown => exact hq
  · rintro e W ⟨⟨v, rfl⟩, hor⟩
    have hFa : Fr (Db :: D) m n { a with defers := [mk Db] ++ a.defers } := by
      refine ⟨hF.fr, by rw [List.map_cons, ← hF.df]; rfl, List.nodup_cons.2 ⟨fun hh => ?_, hF.nd⟩⟩
      have := (Array.getElem?_eq_some_iff.1 (HM w (Kp.refl _ _) Db hh).1).1
      omega
    have fin : ∀ (L1 : List Bk) (R1 : List Rw) (o o' : Obj), St (ids L R) w L1 R1 W → W.heap[l]? = some o' → (∀ c t f, o' ≠ .cells c t f) → W.heap[Db]? = some (.deferred (some [])) → St (ids L1 R1) (W.putObj l o) L1 R1 (W.putObj l o) ∧ (∀ w', Kp (ids L1 R1) (W.putObj l o) w' → Kp F w0 w') ∧ (∀ x ∈ ids L1 R1, w0.heap.size ≤ x ∨ x ∈ F) ∧ Marks B (Db :: D) (ids L1 R1) (W.putObj l o) ∧ w.heap.size ≤ (W.putObj l o).heap.size := fun L1 R1 o o' hS h1 ho h2 => by
      have hln : l ∉ ids L1 R1 := hS.noObj h1 ho
      have hdn : Db ∉ ids L1 R1 := hS.noObj h2 (by simp)
      have hws : w.heap.size ≤ W.heap.size := hS.kp.size
      have kp2 : Kp (ids L R) w (W.putObj l o) := hS.kp.trans (kp_put W l o) fun x hx hlt => by simp at hx; omega
      have kany : ∀ {w'}, Kp (ids L1 R1) (W.putObj l o) w' → Kp (ids L R) w w' := fun k => kp2.trans k fun x hx hlt => by rcases hS.new x hx with h3 | h3; omega; exact h3
      refine ⟨hS.at' (kp_put W l o) (by simpa using hln), fun w' k => hback (kany k), hnew hS, fun w' k b hb => ?_, by simpa using hws⟩
      rcases List.mem_cons.1 hb with rfl | hb
      · refine ⟨?_, by omega⟩
        rw [k.block b (by simpa using (Array.getElem?_eq_some_iff.1 h2).1) hdn, World.putObj_heap_other (by omega)]; exact h2
      · exact HM w' (kany k) b hb
    rcases hor with ⟨G, L1, R1, hi, hS, h1, h2, rfl⟩ | ⟨k, G, hk, c, L1, R1, hi, hS, h1, h2, rfl⟩
    · obtain ⟨f1, f2, f3, f4, f5⟩ := fin L1 R1 (.loop { rec with state := .exhausted }) _ hS h1 (by simp) h2
      have e : rec.pending = none := by rw [hrec]
      have hrun : (Instr.endLoop l).run P W = .ok none (W.putObj l (.loop { rec with state := .exhausted })) := by rw [run_endLoop h1 (by rw [hrec]; simp), e]
      exact ⟨_, _, hrun, done Db L1 R1 _ _ _ _ rfl rfl hi hFa f1 f2 f3 f4 (Nat.le_trans hB f5)⟩
    · obtain ⟨f1, f2, f3, f4, f5⟩ := fin L1 R1 (.loop { { rec with state := .done, pending := some c } with state := .exhausted }) _ hS h1 (by simp) h2
      exact ⟨_, _, run_endLoop h1 (by simp), stop c Db L1 R1 _ _ _ _ rfl rfl hi hFa f1 f2 f3 f4 (Nat.le_trans hB f5)⟩
end

/-! ### Iterators -/
theorem callsIn_it {P : Program} {fn : Func} {Rr : Ending → World → Prop} {w0 : World} {f : FuncId} {c : Code} {args : List Value} (hf : P.funcs[f]? = some fn) (hb : fn.body = some c) {n : Nat} (hn : fn.ntmps = n) (hle : Nat.ble args.length n = true)
    (h : ∀ a w, Fr [] (numbered 0 args) n a → w = w0 → c.wpIn (Wd none) 0 P (bodyPostM (Wd none) 0 P fn Rr) a w) : CallsIn (Wd none) 0 P f args.toArray w0 Rr := by
  refine callsIn_of_wp_marks (F := Wd none) (n := 0) hf hb trivial (h _ w0 (Fr.of ?_) rfl) rfl
  have := Go.Proofs.YtgfppmnpccaloaaDoor.Fr.enter (m := numbered 0 args) (n := n) (args := args) (fun k v hk => by have := (lk_numbered args 0 k v hk).2; simpa using this) (by simpa using hle)
  rw [hn]
  exact this
theorem _root_.Go.Proofs.YtgfppmnpccaloaaDoor.St.ofBlk {w : World} {g : Nat} {c : Array Value} {t : TypeId} (h : w.heap[g]? = some (.cells c t (0, 0))) : St [g] w [⟨g, c, t⟩] [] w :=
  ⟨Kp.refl _ _, fun b hb => by obtain rfl := List.mem_singleton.1 hb; exact h, by simp, fun x hx => by simp [ids] at hx; simp [hx], by simp [ids]⟩
theorem _root_.Go.Proofs.YtgfppmnpccaloaaDoor.St.ofBlk2 {w : World} {g g2 : Nat} {c c2 : Array Value} {t t2 : TypeId} (h : w.heap[g]? = some (.cells c t (0, 0))) (h2 : w.heap[g2]? = some (.cells c2 t2 (0, 0))) (hne : g ≠ g2) : St [g, g2] w [⟨g, c, t⟩, ⟨g2, c2, t2⟩] [] w :=
  ⟨Kp.refl _ _, fun b hb => by
    simp only [List.mem_cons, List.not_mem_nil, or_false] at hb
    rcases hb with rfl | rfl
    · exact h
    · exact h2, by simp, fun x hx => by simp [ids] at hx; simp [hx], by simp [ids, hne]⟩
/-- Where an iterator stands. -/
structure It (J : Nat → List Nat → World → Prop) (G0 : List Nat) (W0 : World) (k : Nat) (G : List Nat) (w : World) : Prop where
  j : J k G w
  kp : Kp G0 W0 w
  gn : ∀ x ∈ G, x ∈ G0 ∨ W0.heap.size ≤ x
section
variable {J : Nat → List Nat → World → Prop} {G0 G : List Nat} {W0 w : World} {k : Nat}
theorem It.start (h : J 0 G0 W0) : It J G0 W0 0 G0 W0 := ⟨h, Kp.refl _ _, fun _ h => .inl h⟩
theorem It.next {G' : List Nat} {w' : World} (h : It J G0 W0 k G w) (hj : J (k + 1) G' w') (ha : Adv G G' w w') : It J G0 W0 (k + 1) G' w' :=
  ⟨hj, h.kp.trans ha.kp fun x hx hlt => by rcases h.gn x hx with h1 | h1; exact h1; omega, fun x hx => by
    rcases ha.gr x hx with h1 | h1
    · exact h.gn x h1
    · exact .inr (Nat.le_trans h.kp.size h1)⟩
theorem It.out {Rs : List Nat} (h : It J G0 W0 k G w) (hG0 : ∀ x ∈ G0, x ∉ Rs) {g : Nat} (hg : g ∈ Rs) (hl : g < W0.heap.size) : g ∉ G := fun hh => by
  rcases h.gn g hh with h1 | h1
  · exact hG0 g h1 hg
  · omega
theorem It.step {H : List Nat} {w' : World} {B : Nat} (h : It J G0 W0 k G w) (hJ : StJ B J) (hk : Kp H w w') (hB : W0.heap.size ≤ B) (hH : ∀ x ∈ H, x ∉ G ∧ B ≤ x) : It J G0 W0 k G w' :=
  ⟨hJ.1 k G w w' H h.j hk hH, h.kp.trans hk fun x hx hlt => by have := (hH x hx).2; omega, h.gn⟩
end
theorem kp_nil {F : List Nat} {w w' : World} {L : List Bk} {R R' : List Rw} (h0 : St F w L R w) (h : St F w L R' w') (hF : ∀ x ∈ F, ∃ b ∈ L, b.g = x) : Kp [] w w' :=
  ⟨h.kp.os, h.kp.tape, h.kp.output, h.kp.size, fun k hk _ => by
    by_cases hkF : k ∈ F
    · obtain ⟨b, hb, rfl⟩ := hF k hkF
      rw [h.blk b hb, h0.blk b hb]
    · exact h.kp.block k hk hkF⟩
/-- What of it has turned, turned. -/
theorem _root_.Go.Proofs.YtgfppmnpccaloaaDoor.St.upd {F : List Nat} {w0 w w' : World} {L1 L1' L : List Bk} {R1 R1' R : List Rw} (h : St F w0 (L1 ++ L) (R1 ++ R) w) (k : St (ids L1 R1) w L1' R1' w') : St F w0 (L1' ++ L) (R1' ++ R) w' := by
  have hin : ∀ x, x ∈ ids L1 R1 → x ∈ ids (L1 ++ L) (R1 ++ R) := fun x hx => by
    simp only [ids, List.map_append, List.flatMap_append, List.mem_append] at hx ⊢
    rcases hx with hx | hx
    · exact .inl (.inl hx)
    · exact .inr (.inl hx)
  have hnd := h.nd
  have hp : (ids (L1 ++ L) (R1 ++ R)).Perm (ids L1 R1 ++ ids L R) := by
    simp only [ids, List.map_append, List.flatMap_append, List.append_assoc]
    refine List.Perm.append_left _ ?_
    rw [← List.append_assoc, ← List.append_assoc]
    exact List.Perm.append_right _ List.perm_append_comm
  have hp' : (ids (L1' ++ L) (R1' ++ R)).Perm (ids L1' R1' ++ ids L R) := by
    simp only [ids, List.map_append, List.flatMap_append, List.append_assoc]
    refine List.Perm.append_left _ ?_
    rw [← List.append_assoc, ← List.append_assoc]
    exact List.Perm.append_right _ List.perm_append_comm
  have hd := List.nodup_append.1 (hp.nodup_iff.1 hnd)
  have hout : ∀ x ∈ ids L R, x ∉ ids L1 R1 := fun x hx hh => hd.2.2 x hh x hx rfl
  have hltR : ∀ x ∈ ids L R, x < w.heap.size := fun x hx => h.lt x (hp.mem_iff.2 (List.mem_append.2 (.inr hx)))
  refine ⟨h.kp.trans k.kp fun x hx hlt => ?_, fun b hb => ?_, fun r hr => ?_, fun x hx => ?_, ?_⟩
  · rcases h.new x (hin x hx) with h1 | h1
    · omega
    · exact h1
  · rcases List.mem_append.1 hb with hb | hb
    · exact k.blk b hb
    · rw [k.kp.block b.g (hltR _ (mem_blk hb)) (hout _ (mem_blk hb))]
      exact h.blk b (List.mem_append.2 (.inr hb))
  · rcases List.mem_append.1 hr with hr | hr
    · exact k.row r hr
    · exact own_kept (h.row r (List.mem_append.2 (.inr hr))) k.kp (by rw [rowF_slice]; exact fun x hx => hout x (mem_row hr hx))
  · rcases List.mem_append.1 (hp'.mem_iff.1 hx) with hx | hx
    · rcases k.new x hx with h1 | h1
      · exact .inl (Nat.le_trans h.kp.size h1)
      · exact h.new x (hin x h1)
    · exact h.new x (hp.mem_iff.2 (List.mem_append.2 (.inr hx)))
  · rw [hp'.nodup_iff, List.nodup_append]
    refine ⟨k.nd, hd.2.1, fun x hx y hy hh => ?_⟩
    subst hh
    rcases k.new x hx with h1 | h1
    · have := hltR x hy; omega
    · exact hout x hy h1
/-- An object: a block, and its row. -/
theorem _root_.Go.Proofs.YtgfppmnpccaloaaDoor.St.ofObj {w : World} {g : Nat} {cs : Array Value} {t e : TypeId} {size : Nat} {a : Option Addr} {n c : Nat} {xs : List Value} (h : w.heap[g]? = some (.cells cs t (0, 0))) (hr : w.ownsRow 0 e size (.slice a n c) n xs) (hne : t ≠ e) : St (ids [⟨g, cs, t⟩] [⟨e, size, a, n, c, xs⟩]) w [⟨g, cs, t⟩] [⟨e, size, a, n, c, xs⟩] w := by
  refine ⟨Kp.refl _ _, fun b hb => by obtain rfl := List.mem_singleton.1 hb; exact h, fun r hr' => by obtain rfl := List.mem_singleton.1 hr'; exact hr, fun x hx => .inr hx, ?_⟩
  have hn := own_ne h hr hne
  cases a with
  | none => simp [ids, aF]
  | some b =>
    simp only [ids, aF, List.map_cons, List.map_nil, List.flatMap_cons, List.flatMap_nil, List.append_nil, List.cons_append, List.nil_append, List.nodup_cons, List.mem_singleton, List.not_mem_nil, not_false_eq_true, List.nodup_nil, and_true]
    intro hh
    refine hn ?_
    rcases hr.2 with ⟨h1, _⟩ | ⟨gg, cap, cur, h1, _, hg, _⟩
    · simp at h1
    · simp only [Value.slice.injEq, Option.some.injEq] at h1
      obtain ⟨rfl, _⟩ := h1
      rw [hh]; rfl
/-- A byte of a hash. -/
theorem yl_ixH {P : Program} {S : World → Prop} {m : List (Nat × Value)} {t e : TypeId} (hu : P.underlying t = some (.array 32 e)) (T : ScT P e) {x y : Operand} {h : Hsh} {k : Nat} (hx : ev m x = some (hv h)) (hy : ev m y = some (.int .i64 (k : Int))) (hk : k < 32) : Yl P S (.index t x y) m (bcell (h.1.getD k 0)) :=
  yl_index hx hy fun w => by
    obtain ⟨⟨d, hud, hd⟩, hs⟩ := T
    obtain ⟨i, hi, hz⟩ := Option.map_eq_some_iff.1 hs
    have hagg : (isAgg e).run P w = .ok false w := by
      unfold isAgg
      rw [Sem.run_bind, run_underlying hud w]
      cases d <;> simp_all
    have hl : h.1.length = 32 := h.2
    have hc : (hvA h)[k]? = some (bcell (h.1.getD k 0)) := by
      simp [hvA, hcs, bcs, List.getD_eq_getElem?_getD, List.getElem?_eq_getElem (show k < h.1.length by omega)]
    have h0 : (0 : Int) ≤ k ∧ (k : Int) < (32 : Nat) := ⟨by omega, by omega⟩
    simp only [Instr.index, asIntOf, run_underlying hu, Sem.run_bind, Sem.run_pure, Result.andThen_ok]
    rw [if_pos h0]
    simp [sizeOf, typeInfo, hi, hz, part, hagg, hc, Sem.run_bind, Sem.run_pure, Result.andThen_ok]
end Go.Proofs.YtgfppmnpccaloaaDoor.R
