import Derived.Test.YtngdbblgnimogaaRef3
import Derived.Test.YtngdbblgnimogaaEq
import Derived.Test.YtngdbblgnimogaaQuiet
namespace Go.Proofs.Ytngdbblgnimogaa
open Go.RowKit

/-! ### Structs by value -/
structure StT (P : Program) (t : TypeId) (n : Nat) : Prop where
  u : ∃ fs, P.underlying t = some (.struct fs)
  s : (P.info? t).map (·.size) = some n
theorem wpList_gets {P : Program} {ops : Array Oper} {rest : List Oper} {o : Oper} {a : Act} {w : World} {Q : Exit → Act → World → Prop} {ty : TypeId} {n : Nat} (T : StT P ty n) (hgd : o.guard = none) {x : Operand} (ho : o.op = .load ty x)
    {g : Nat} {t : TypeId} {cs : Array Value} {fr : Nat × Nat} (hg : w.heap[g]? = some (.cells cs t fr)) (hn : cs.size = n) (hx : a.eval x = .pointer (some ⟨g, 0, none⟩))
    (h : wpList P ops Q rest (a.put o.dst (.agg cs)) w) : wpList P ops Q (o :: rest) a w := by
  obtain ⟨⟨fs, hu⟩, hs⟩ := T
  exact wpList_load_row hgd ty x ho g hx t cs fr _ hg hu rfl (by rw [hs, hn]) h
theorem wpList_gets_mid {P : Program} {ops : Array Oper} {rest : List Oper} {o : Oper} {a : Act} {w : World} {Q : Exit → Act → World → Prop} {ty : TypeId} {n : Nat} (T : StT P ty n) (hgd : o.guard = none) {x : Operand} (ho : o.op = .load ty x)
    {b off : Nat} {cs : List Value} (hc : w.rangeAt b off cs) (hn : cs.length = n) (hx : a.eval x = .pointer (some ⟨b, off, none⟩))
    (h : wpList P ops Q rest (a.put o.dst (.agg cs.toArray)) w) : wpList P ops Q (o :: rest) a w := by
  obtain ⟨⟨fs, hu⟩, hs⟩ := T
  exact wpList_load_mid hgd ty x ho b off hx cs _ hc hu rfl (by rw [hs, hn]) h
theorem wpList_sets {P : Program} {ops : Array Oper} {rest : List Oper} {o : Oper} {a : Act} {w : World} {Q : Exit → Act → World → Prop} {ty : TypeId} {n : Nat} (T : StT P ty n) (hgd : o.guard = none) {x y : Operand} (ho : o.op = .store ty x y)
    {g : Nat} {t : TypeId} {old cs : Array Value} (hg : w.heap[g]? = some (.cells old t (0, 0))) (ho1 : old.size = n) (hn : cs.size = n) (h1 : ∀ v ∈ cs.toList, v.oneCell' = true) (hx : a.eval x = .pointer (some ⟨g, 0, none⟩)) (hy : a.eval y = .agg cs)
    (h : ∀ w', w'.heap[g]? = some (.cells cs t (0, 0)) → Kp [g] w w' → w'.heap.size = w.heap.size → wpList P ops Q rest (a.put o.dst undef) w') : wpList P ops Q (o :: rest) a w := by
  refine wpList_store_row hgd ty x y ho g cs hx hy t old hg (by rw [T.s, hn]) (by omega) (Array.all_eq_true_iff_forall_mem.2 fun v hv => h1 v (by simpa using hv)) ?_
  exact h _ (setRow_heap w g _ _ t _ hg) (setRow_kp _ _ _) (by simp)
theorem Try.tthing : StT Try.prog 48 37 := ⟨⟨_, Try.underlying48⟩, by kernel_rfl⟩

/-! ### A thing -/
structure Th where
  kind : Int
  n : Int
  text : ByteArray
  hash : Hsh
  ha : Option Addr
  hc : Nat
  hs : List Hsh
  flag : Bool
def thC (x : Th) : List Value := [.int .i64 x.kind, .int .i64 x.n, .string x.text] ++ hcs x.hash ++ [.slice x.ha x.hs.length x.hc, .bool x.flag]
def thA (x : Th) : Array Value := (thC x).toArray
def thv (x : Th) : Value := .agg (thA x)
theorem thC_length (x : Th) : (thC x).length = 37 := by simp [thC, hcs_length]
theorem thA_size (x : Th) : (thA x).size = 37 := by simp [thA, thC_length]
theorem thC_0 (x : Th) : (thC x)[0]? = some (.int .i64 x.kind) := by simp [thC]
theorem thC_1 (x : Th) : (thC x)[1]? = some (.int .i64 x.n) := by simp [thC]
theorem thC_2 (x : Th) : (thC x)[2]? = some (.string x.text) := by simp [thC]
theorem thC_h (x : Th) (j : Nat) (h : j < 32) : (thC x)[3 + j]? = (hcs x.hash)[j]? := by
  unfold thC
  rw [List.append_assoc, List.getElem?_append_right (by simp), List.getElem?_append_left (by simp [hcs_length]; omega)]
  simp
theorem thC_35 (x : Th) : (thC x)[35]? = some (.slice x.ha x.hs.length x.hc) := by
  unfold thC
  rw [List.getElem?_append_right (by simp [hcs_length])]
  simp [hcs_length]
theorem thC_36 (x : Th) : (thC x)[36]? = some (.bool x.flag) := by
  unfold thC
  rw [List.getElem?_append_right (by simp [hcs_length])]
  simp [hcs_length]
theorem thC_one (x : Th) : ∀ v ∈ thC x, v.oneCell' = true := by
  intro v hv
  simp only [thC, List.mem_append, List.mem_cons, List.not_mem_nil, or_false] at hv
  rcases hv with ((rfl | rfl | rfl) | h) | rfl | rfl
  · rfl
  · rfl
  · rfl
  · exact bcs_one _ v h
  · rfl
  · rfl

/-- The bytes of a thing. -/
def thB (x : Th) : List UInt8 :=
  if x.kind = 0 then be 8 x.n else if x.kind = 1 then be 4 x.text.size ++ sl x.text else if x.kind = 2 then x.hash.1
  else if x.kind = 3 then be 4 x.hs.length ++ hb x.hs else if x.kind = 4 then [if x.flag then 1 else 0] else []

/-- A thing of a world, and small. -/
structure ThOk (w : World) (x : Th) : Prop where
  i1 : -9223372036854775808 ≤ x.n
  i2 : x.n ≤ 9223372036854775807
  tx : x.text.size ≤ 300
  hl : x.hs.length ≤ 20
  rd : Rd w x.ha x.hs.length x.hc 32 (hsc x.hs)
theorem thB_length {w : World} {x : Th} (h : ThOk w x) : (thB x).length ≤ 700 := by
  have h1 := h.tx
  have h2 := h.hl
  unfold thB
  split
  · rw [be_length]; omega
  · split
    · rw [List.length_append, be_length, sl_length]; omega
    · split
      · rw [x.hash.2]; omega
      · split
        · rw [List.length_append, be_length, hb_length]; omega
        · split <;> simp
theorem ThOk.below {w w' : World} {x : Th} (h : ThOk w x) (k : Kp [] w w') : ThOk w' x := ⟨h.i1, h.i2, h.tx, h.hl, h.rd.below k⟩

/-- The boxed thing: its cells. -/
structure BoxAt (w : World) (g : Nat) (x : Th) : Prop where
  b : w.heap[g]? = some (.cells (thA x) 48 (0, 0))
theorem BoxAt.cell {w : World} {g : Nat} {x : Th} (h : BoxAt w g x) {j : Nat} {v : Value} (hv : (thC x)[j]? = some v) : w.cell? ⟨g, j, none⟩ = some v := by
  rw [cell_of_row w g j _ _ _ h.b]; simpa [thA] using hv
theorem BoxAt.hash {w : World} {g : Nat} {x : Th} (h : BoxAt w g x) : w.rangeAt g 3 (hcs x.hash) := fun j v hv => by
  have hj : j < 32 := by
    have := List.getElem?_eq_some_iff.1 hv
    obtain ⟨h1, _⟩ := this
    rwa [hcs_length] at h1
  exact h.cell (by rw [thC_h x j hj]; exact hv)
theorem BoxAt.kept {w w' : World} {g : Nat} {x : Th} {F : List Nat} (h : BoxAt w g x) (k : Kp F w w') (hF : g ∉ F) : BoxAt w' g x := ⟨(k.block g (lt_of_block h.b) hF).trans h.b⟩
theorem box_new (w : World) (x : Th) : BoxAt (w.alloc (.cells (thA x) 48)) w.heap.size x := ⟨heap_alloc_new w _⟩
end Go.Proofs.Ytngdbblgnimogaa
