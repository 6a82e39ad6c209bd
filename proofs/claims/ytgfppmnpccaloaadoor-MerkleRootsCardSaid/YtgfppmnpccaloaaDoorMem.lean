/-
  MEMORY, over any program: facts on type tables, blocks known whole, own rows, what an append leaves.
-/
import Derived.Test.YtgfppmnpccaloaaDoorRows
import Derived.WalkKit
import Derived.WalkSpells
import Derived.WalkLawsBesides
import Derived.Lib.Hide
import Derived.Deep.AppendLies
import Derived.Deep.RegionLaw
import Derived.Laws.AppendOwnNone
import Derived.Lib.SliceRun
import Derived.Deep.MidRow
import Derived.Laws.CopyOwn
namespace Go.Proofs.YtgfppmnpccaloaaDoor
open Go.RowKit

/-- The facts on a slice type t of elements e. -/
structure SlT (P : Program) (t e : TypeId) (i : TypeInfo) (z : Value) (size bytes : Nat) : Prop where
  u : P.underlying t = some (.slice e)
  hi : P.info? e = some i
  hz : i.zero = some z
  s : i.size = size
  b : i.bytes = bytes
  hzs : z.cells.size = size
  p : 0 < size

theorem SlT.mk' {P : Program} {t e : TypeId} {z : Value} {size bytes : Nat} (u : P.underlying t = some (.slice e)) (h : (P.info? e).map (fun i => (i.zero, i.size, i.bytes)) = some (some z, size, bytes)) (zs : z.cells.size = size) (p : 0 < size) :
    ∃ i, SlT P t e i z size bytes := by
  obtain ⟨i0, hi, hz0, hz1, hz2⟩ := info_parts h
  exact ⟨i0, u, hi, hz0, hz1, hz2, zs, p⟩

/-- All blocks of w that are not in F are in w' as they were. -/
structure Kp (F : List Nat) (w w' : World) : Prop where
  os : w'.os = w.os
  tape : w'.tape = w.tape
  output : w'.output = w.output
  size : w.heap.size ≤ w'.heap.size
  block : ∀ k, k < w.heap.size → k ∉ F → w'.heap[k]? = w.heap[k]?

theorem Kp.refl (F : List Nat) (w : World) : Kp F w w := ⟨rfl, rfl, rfl, Nat.le_refl _, fun _ _ _ => rfl⟩
theorem Kp.drew {F : List Nat} {a w : World} (h : Kp F a w) : Kp F a w.drew := ⟨h.os, h.tape, h.output, h.size, h.block⟩
theorem Kp.trans {F G : List Nat} {a b c : World} (h : Kp F a b) (k : Kp G b c) (hg : ∀ x ∈ G, x < a.heap.size → x ∈ F) : Kp F a c :=
  ⟨k.os.trans h.os, k.tape.trans h.tape, k.output.trans h.output, Nat.le_trans h.size k.size, fun i hi hF =>
    (k.block i (Nat.lt_of_lt_of_le hi h.size) (fun hG => hF (hg i hG hi))).trans (h.block i hi hF)⟩
theorem Kp.mono {F G : List Nat} {a b : World} (h : Kp F a b) (hg : ∀ x ∈ F, x < a.heap.size → x ∈ G) : Kp G a b :=
  ⟨h.os, h.tape, h.output, h.size, fun i hi hG => h.block i hi (fun hF => hG (hg i hF hi))⟩
theorem Kp.alloc {F : List Nat} {a w : World} (h : Kp F a w) (o : Obj) : Kp F a (w.alloc o) :=
  ⟨h.os, h.tape, h.output, by have := h.size; simp; omega, fun i hi hF => (Below.heap_alloc w o i (by have := h.size; omega)).trans (h.block i hi hF)⟩
theorem Kp.setCell {F : List Nat} {a w : World} (h : Kp F a w) {p : Addr} (hp : p.block ∈ F ∨ a.heap.size ≤ p.block) (u : Value) : Kp F a (w.setCell p u) :=
  ⟨h.os, h.tape, h.output, by have := h.size; simp; omega, fun i hi hF => (Below.heap_setCell w p u i (by rintro rfl; rcases hp with hp | hp; exact hF hp; omega)).trans (h.block i hi hF)⟩
theorem Kp.grown {F : List Nat} {a w w' : World} {row : Option Nat} (h : Kp F a w) (hg : w.grownBy w' row) (hr : ∀ k, row = some k → k ∈ F ∨ a.heap.size ≤ k) : Kp F a w' :=
  ⟨hg.os.trans h.os, hg.tape.trans h.tape, hg.output.trans h.output, Nat.le_trans h.size hg.size, fun i hi hF =>
    (hg.block i (Nat.lt_of_lt_of_le hi h.size) (fun e => by rcases hr i e.symm with h1 | h1; exact hF h1; omega)).trans (h.block i hi hF)⟩
theorem Kp.of_below {w w' : World} (h : Below w.heap.size w w') : Kp [] w w' := ⟨h.os, h.tape, h.output, h.size, fun k hk _ => h.block k hk⟩
theorem Kp.below {F : List Nat} {w w' : World} {B : Nat} (h : Kp F w w') (hB : B ≤ w.heap.size) (hF : ∀ x ∈ F, B ≤ x) : Below B w w' :=
  ⟨h.os, h.tape, h.output, h.size, fun k hk => h.block k (by omega) (fun hh => by have := hF k hh; omega)⟩
theorem Kp.cell {F : List Nat} {w w' : World} (h : Kp F w w') {p : Addr} (hp : p.block < w.heap.size) (hF : p.block ∉ F) : w'.cell? p = w.cell? p := World.cell?_of_block (w := w) (h.block _ hp hF)
theorem Kp.frozen {F : List Nat} {w w' : World} (h : Kp F w w') {p : Addr} (hp : p.block < w.heap.size) (hF : p.block ∉ F) : w'.frozen? p = w.frozen? p := World.frozen?_of_block (w := w) (h.block _ hp hF)

/-- A block of one type is not the row of another. -/
theorem own_ne {w : World} {p : Nat} {cs : Array Value} {t : TypeId} {fr : Nat × Nat} {base : Nat} {e : TypeId} {size : Nat} {v : Value} {n : Nat} {xs : List Value}
    (h1 : w.heap[p]? = some (.cells cs t fr)) (h2 : w.ownsRow base e size v n xs) (hne : t ≠ e) : v.ownBlock ≠ some p := by
  intro hb
  rcases h2.2 with ⟨rfl, _⟩ | ⟨g, cap, cur, rfl, _, hg, _⟩
  · simp [Value.ownBlock] at hb
  · simp [Value.ownBlock] at hb
    subst hb
    rw [h1] at hg
    simp at hg
    exact hne hg.2.1

/-- The block under a row. -/
def rowF : Value → List Nat
  | .slice (some a) _ _ => [a.block]
  | _ => []

theorem own_kept {F : List Nat} {w w' : World} {base : Nat} {e : TypeId} {size : Nat} {v : Value} {n : Nat} {xs : List Value} (h : w.ownsRow base e size v n xs) (k : Kp F w w') (hF : ∀ x ∈ rowF v, x ∉ F) : w'.ownsRow base e size v n xs := by
  refine ⟨h.1, ?_⟩
  rcases h.2 with hn | ⟨g, cap, cur, rfl, hb, hgg, rest⟩
  · exact .inl hn
  · refine .inr ⟨g, cap, cur, rfl, hb, ?_, rest⟩
    rw [k.block g (Array.getElem?_eq_some_iff.1 hgg).1 (hF g (by simp [rowF]))]
    exact hgg
theorem own_lt {w : World} {base : Nat} {e : TypeId} {size : Nat} {v : Value} {n : Nat} {xs : List Value} (h : w.ownsRow base e size v n xs) : ∀ x ∈ rowF v, base ≤ x ∧ x < w.heap.size := by
  intro x hx
  rcases h.2 with ⟨rfl, _⟩ | ⟨g, cap, cur, rfl, hb, hgg, rest⟩
  · simp [rowF] at hx
  · simp [rowF] at hx
    subst hx
    exact ⟨hb, (Array.getElem?_eq_some_iff.1 hgg).1⟩
theorem rowF_of {v : Value} {g : Nat} (h : v.ownBlock = some g) : rowF v = [g] := by
  unfold Value.ownBlock at h
  split at h
  · simp at h; subst h; rfl
  · simp at h

/-- A step of an object: what was its own turned, what is its own now was its own or is new. -/
structure Adv (F F' : List Nat) (w w' : World) : Prop where
  kp : Kp F w w'
  gr : ∀ x ∈ F', x ∈ F ∨ w.heap.size ≤ x
theorem Adv.refl (F : List Nat) (w : World) : Adv F F w w := ⟨Kp.refl F w, fun _ h => .inl h⟩
theorem Adv.trans {F G H : List Nat} {a b c : World} (h : Adv F G a b) (k : Adv G H b c) : Adv F H a c :=
  ⟨h.kp.trans k.kp (fun x hx hlt => by rcases h.gr x hx with h1 | h1; exact h1; omega), fun x hx => by
    rcases k.gr x hx with h1 | h1
    · exact h.gr x h1
    · right; have := h.kp.size; omega⟩
theorem Adv.drew {F G : List Nat} {a w : World} (h : Adv F G a w) : Adv F G a w.drew := ⟨h.kp.drew, h.gr⟩

/-- 'append' of what lies whole in a block, as one step of a region that draws its order. -/
theorem step_push {P : Program} {ops : Array Oper} {o : Oper} {a : Act} {w : World} {K : Act → World → Prop} {Q : Exit → Act → World → Prop} {E : Prop} {t e : TypeId} {i : TypeInfo} {z : Value} {size bytes : Nat}
    (T : SlT P t e i z size bytes) (hgd : o.guard = none) {s x : Operand} (ho : o.op = .call { callee := .builtin .append, args := #[s, x], argTypes := #[t, t] })
    {v : Value} {n : Nat} {xs : List Value} (hs : a.eval s = v) (hown : w.ownsRow 0 e size v n xs)
    {B m c : Nat} {cs : Array Value} {et : TypeId} {fr : Nat × Nat} (hx : a.eval x = .slice (some ⟨B, 0, none⟩) m c) (hB : w.heap[B]? = some (.cells cs et fr)) (hl : cs.size = m * size) (h1 : ∀ u ∈ cs.toList, u.oneCell' = true) (hm : 0 < m)
    (hn : (n + m) * bytes ≤ 140737488355328) (h63 : n + m ≤ maxLen)
    (h : ∀ g cap w', w'.ownsRow 0 e size (.slice (some ⟨g, 0, none⟩) (n + m) cap) (n + m) (xs ++ cs.toList) → w.grownBy w' v.ownBlock → (v.ownBlock = some g ∨ g = w.heap.size) → g < w'.heap.size → K (a.put o.dst (.slice (some ⟨g, 0, none⟩) (n + m) cap)) w') :
    if Region.wanted o (yielded ops a.tmps) = true then Oper.wp P o a w K Q else E :=
  step_append_lies w hgd s x t ho 0 e i z size bytes T.u T.hi T.hz T.s T.b T.hzs T.p v n xs hs hown ⟨B, 0, none⟩ m c cs.toList hx (by simpa using hl) (World.news_of_block hB) h1 hm h63 hn (Nat.zero_le _) _ rfl h

/-! ### Slices that are read -/

def aF : Option Addr → List Nat
  | some b => [b.block]
  | none => []

theorem addr_add_add (a : Addr) (i j : Nat) : (a.add i).add j = a.add (i + j) := by
  unfold Addr.add
  split <;> split <;> simp_all
  omega

/-- A slice value '.slice a n c' whose elements, of 'size' cells each, lie in w as the cells xs. -/
structure Rd (w : World) (a : Option Addr) (n c size : Nat) (xs : List Value) : Prop where
  len : xs.length = n * size
  le : n ≤ c
  max : c ≤ maxLen
  nil : a = none → c = 0
  cells : ∀ j u, xs[j]? = some u → ∃ b, a = some b ∧ w.cell? (b.add j) = some u

theorem nil_rd (w : World) (size : Nat) : Rd w none 0 0 size [] := ⟨by simp, Nat.le_refl _, by simp [maxLen], fun _ => rfl, by simp⟩
theorem Rd.drew {w : World} {a : Option Addr} {n c size : Nat} {xs : List Value} (h : Rd w a n c size xs) : Rd w.drew a n c size xs := ⟨h.len, h.le, h.max, h.nil, h.cells⟩

theorem Rd.spot {w : World} {a : Option Addr} {n c size : Nat} {xs : List Value} (h : Rd w a n c size xs) (hp : 0 < xs.length) :
    ∃ b off, a = some ⟨b, off, none⟩ ∧ b < w.heap.size ∧ ∀ j u, xs[j]? = some u → w.cell? ⟨b, off + j, none⟩ = some u := by
  obtain ⟨x, hx⟩ : ∃ x, xs[0]? = some x := ⟨xs[0], by simp [hp]⟩
  obtain ⟨⟨b, off, sp⟩, rfl, hc⟩ := h.cells 0 x hx
  have hsp : sp = none := by
    cases sp with
    | none => rfl
    | some q =>
      simp only [Addr.add, if_true] at hc
      unfold World.cell? at hc
      split at hc <;> simp at hc
  subst hsp
  refine ⟨b, off, rfl, World.block_lt_of_cell? _ _ hc, fun j u hu => ?_⟩
  obtain ⟨b', hb', hc'⟩ := h.cells j u hu
  simp only [Option.some.injEq] at hb'
  subst hb'
  rw [Addr.add_mid] at hc'
  exact hc'

theorem Rd.kept {F : List Nat} {w w' : World} {a : Option Addr} {n c size : Nat} {xs : List Value} (h : Rd w a n c size xs) (k : Kp F w w') (hF : ∀ x ∈ aF a, x ∉ F) : Rd w' a n c size xs := by
  refine ⟨h.len, h.le, h.max, h.nil, fun j u hu => ?_⟩
  obtain ⟨b, hb, hc⟩ := h.cells j u hu
  refine ⟨b, hb, ?_⟩
  have hlt := World.block_lt_of_cell? _ _ hc
  have hbl : (b.add j).block = b.block := by unfold Addr.add; split <;> rfl
  rw [k.cell hlt (by rw [hbl]; exact hF _ (by rw [hb]; simp [aF]))]
  exact hc

theorem Rd.below {w w' : World} {a : Option Addr} {n c size : Nat} {xs : List Value} (h : Rd w a n c size xs) (k : Kp [] w w') : Rd w' a n c size xs := h.kept k (by simp)

theorem Rd.lt {w : World} {a : Option Addr} {n c size : Nat} {xs : List Value} (h : Rd w a n c size xs) (hp : 0 < xs.length) : ∀ x ∈ aF a, x < w.heap.size := by
  obtain ⟨b, off, rfl, hb, _⟩ := h.spot hp
  intro x hx
  simp [aF] at hx
  omega

theorem Rd.cut {w : World} {a : Option Addr} {n c size : Nat} {xs : List Value} (h : Rd w a n c size xs) (lo hi mx : Nat) (h1 : lo ≤ hi) (h2 : hi ≤ mx) (h3 : mx ≤ c) (h4 : hi ≤ n) :
    Rd w (if mx = lo then a else a.map (·.add (lo * size))) (hi - lo) (mx - lo) size ((xs.take (hi * size)).drop (lo * size)) := by
  refine ⟨?_, by omega, by have := h.max; omega, ?_, fun j u hu => ?_⟩
  · have hm : hi * size ≤ n * size := Nat.mul_le_mul_right _ h4
    simp only [List.length_drop, List.length_take, h.len, Nat.sub_mul]
    omega
  · intro hn
    split at hn
    · omega
    · have := h.nil (by simpa using hn); omega
  · rw [List.getElem?_drop, List.getElem?_take] at hu
    split at hu
    · rename_i hj
      obtain ⟨b, rfl, hc⟩ := h.cells _ u hu
      by_cases hml : mx = lo
      · have : hi = lo := by omega
        subst this; omega
      · rw [if_neg hml]
        exact ⟨b.add (lo * size), rfl, by rw [addr_add_add]; exact hc⟩
    · cases hu

theorem Rd.take {w : World} {a : Option Addr} {n c size : Nat} {xs : List Value} (h : Rd w a n c size xs) (m k : Nat) (h1 : m ≤ n) (h2 : m ≤ k) (h3 : k ≤ c) : Rd w a m k size (xs.take (m * size)) := by
  refine ⟨?_, h2, by have := h.max; omega, fun e => by have := h.nil e; omega, fun j u hu => ?_⟩
  · have hm : m * size ≤ n * size := Nat.mul_le_mul_right _ h1
    rw [List.length_take, h.len]; omega
  · rw [List.getElem?_take] at hu
    split at hu
    · exact h.cells j u hu
    · cases hu

theorem Rd.drop {w : World} {a : Option Addr} {n c size : Nat} {xs : List Value} (h : Rd w a n c size xs) (k : Nat) (h1 : k ≤ n) :
    Rd w (if c = k then a else a.map (·.add (k * size))) (n - k) (c - k) size (xs.drop (k * size)) := by
  have hr := h.cut k n c h1 h.le (Nat.le_refl _) (Nat.le_refl _)
  rw [List.take_of_length_le (by rw [h.len]; exact Nat.le_refl _)] at hr
  exact hr

theorem aF_cut (a : Option Addr) (P : Prop) [Decidable P] (k : Nat) : ∀ x ∈ aF (if P then a else a.map (·.add k)), x ∈ aF a := by
  intro x hx
  split at hx
  · exact hx
  · cases a with
    | none => simp [aF] at hx
    | some b =>
      have hbl : (b.add k).block = b.block := by unfold Addr.add; split <;> rfl
      simpa [aF, hbl] using hx

theorem own_rd {w : World} {base : Nat} {e : TypeId} {size : Nat} {a : Option Addr} {n c : Nat} {xs : List Value} (h : w.ownsRow base e size (.slice a n c) n xs) : Rd w a n c size xs := by
  rcases h.2 with ⟨hv, rfl⟩ | ⟨g, cap, cur, hv, hb, hg, h1, h2, h3, h4⟩
  · simp at hv
    obtain ⟨rfl, rfl⟩ := hv
    have hx : xs = [] := List.eq_nil_of_length_eq_zero (by simpa using h.1)
    subst hx
    exact ⟨h.1, Nat.le_refl _, by simp [maxLen], fun _ => rfl, by simp⟩
  · simp at hv
    obtain ⟨rfl, rfl⟩ := hv
    exact ⟨h.1, h1, h2, by simp, fun j u hu => ⟨_, rfl, h.cells rfl j u hu⟩⟩

theorem own_aF {w : World} {base : Nat} {e : TypeId} {size : Nat} {a : Option Addr} {n c : Nat} {xs : List Value} (h : w.ownsRow base e size (.slice a n c) n xs) : ∀ x ∈ aF a, base ≤ x ∧ x < w.heap.size := by
  intro x hx
  exact own_lt h x (by cases a with | none => simp [aF] at hx | some b => simpa [rowF, aF] using hx)

theorem rowF_slice (a : Option Addr) (n c : Nat) : rowF (.slice a n c) = aF a := by cases a <;> rfl

/-- THE LAW ON append: onto an own row, from whatever slice that can be read. -/
theorem run_append_rd {P : Program} {w : World} {t ty e : TypeId} {i : TypeInfo} {z : Value} {size bytes : Nat} (T : SlT P t e i z size bytes) {av : Option Addr} {n cv : Nat} {xs : List Value} (hown : w.ownsRow 0 e size (.slice av n cv) n xs)
    {ax : Option Addr} {m c : Nat} {news : List Value} (hx : Rd w ax m c size news) (h1 : ∀ u ∈ news, u.oneCell' = true) (hn : (n + m) * bytes ≤ 140737488355328) (h63 : n + m ≤ maxLen) :
    ∃ a' c' w', (Builtin.append_ #[t, t] ty #[.slice av n cv, .slice ax m c]).run P w = .ok (.slice a' (n + m) c') w' ∧ w'.ownsRow 0 e size (.slice a' (n + m) c') (n + m) (xs ++ news) ∧
      w.grownBy w' (Value.ownBlock (.slice av n cv)) ∧ (∀ x ∈ aF a', x ∈ aF av ∨ x = w.heap.size) := by
  cases ax with
  | none =>
    have hc := hx.nil rfl
    have hm : m = 0 := by have := hx.le; omega
    subst hc hm
    have hnews : news = [] := List.eq_nil_of_length_eq_zero (by simpa using hx.len)
    subst hnews
    refine ⟨av, cv, w, run_append_owned_none (P := P) (w := w) 0 t ty e i size T.u T.hi _ n xs hown, by simpa using hown, World.grownBy.refl _ _, fun x h => .inl h⟩
  | some ad =>
    obtain ⟨v', w', hr, h2, h3, _, h5⟩ := run_append_own_at (P := P) w 0 t ty e i z size bytes T.u T.hi T.hz T.s T.b T.hzs T.p _ n xs hown ad m c news hx.len (fun j u hu => by obtain ⟨b, hb, hc⟩ := hx.cells j u hu; simp only [Option.some.injEq] at hb; subst hb; exact hc) h1 h63 hn (Nat.zero_le _)
    obtain ⟨a', c', rfl⟩ : ∃ a' c', v' = .slice a' (n + m) c' := by
      rcases h2.2 with ⟨hv, h0⟩ | ⟨g, cap, cur, hv, _⟩
      · exact ⟨none, 0, by rw [hv, h0]⟩
      · exact ⟨_, _, hv⟩
    refine ⟨a', c', w', hr, h2, h3, fun x hxm => ?_⟩
    cases a' with
    | none => simp [aF] at hxm
    | some b =>
      simp [aF] at hxm
      subst hxm
      rcases h5 with h5 | h5
      · left
        cases av with
        | none => simp [Value.ownBlock] at h5
        | some q => simp [Value.ownBlock] at h5; simp [aF, h5]
      · right; simpa [Value.ownBlock] using h5

theorem wp_append_rd {P : Program} {o : Oper} {a : Act} {w : World} {K : Act → World → Prop} {Q : Exit → Act → World → Prop} {t e : TypeId} {i : TypeInfo} {z : Value} {size bytes : Nat} (T : SlT P t e i z size bytes) {s x : Operand}
    (ho : o.op = .call { callee := .builtin .append, args := #[s, x], argTypes := #[t, t] }) {av : Option Addr} {n cv : Nat} {xs : List Value} (hs : a.eval s = .slice av n cv) (hown : w.ownsRow 0 e size (.slice av n cv) n xs)
    {ax : Option Addr} {m c : Nat} {news : List Value} (hx : a.eval x = .slice ax m c) (hrd : Rd w ax m c size news) (h1 : ∀ u ∈ news, u.oneCell' = true) (hn : (n + m) * bytes ≤ 140737488355328) (h63 : n + m ≤ maxLen)
    (h : ∀ a' c' w', w'.ownsRow 0 e size (.slice a' (n + m) c') (n + m) (xs ++ news) → w.grownBy w' (Value.ownBlock (.slice av n cv)) → (∀ x ∈ aF a', x ∈ aF av ∨ x = w.heap.size) → K (a.put o.dst (.slice a' (n + m) c')) w') : o.wp P a w K Q := by
  obtain ⟨a', c', w', hr, h2, h3, h4⟩ := run_append_rd (ty := o.type) T hown hrd h1 hn h63
  unfold Oper.wp execOp
  simp only [ho, resolve, invoke, builtin, Sem.run_bind, Sem.run_pure, Result.andThen_ok, List.map_toArray, List.map_cons, List.map_nil, hs, hx, hr]
  exact h a' c' w' h2 h3 h4

theorem wpList_append_rd {P : Program} {ops : Array Oper} {rest : List Oper} {o : Oper} {a : Act} {w : World} {Q : Exit → Act → World → Prop} {t e : TypeId} {i : TypeInfo} {z : Value} {size bytes : Nat} (T : SlT P t e i z size bytes) (hgd : o.guard = none) {s x : Operand}
    (ho : o.op = .call { callee := .builtin .append, args := #[s, x], argTypes := #[t, t] }) {av : Option Addr} {n cv : Nat} {xs : List Value} (hs : a.eval s = .slice av n cv) (hown : w.ownsRow 0 e size (.slice av n cv) n xs)
    {ax : Option Addr} {m c : Nat} {news : List Value} (hx : a.eval x = .slice ax m c) (hrd : Rd w ax m c size news) (h1 : ∀ u ∈ news, u.oneCell' = true) (hn : (n + m) * bytes ≤ 140737488355328) (h63 : n + m ≤ maxLen)
    (h : ∀ a' c' w', w'.ownsRow 0 e size (.slice a' (n + m) c') (n + m) (xs ++ news) → w.grownBy w' (Value.ownBlock (.slice av n cv)) → (∀ x ∈ aF a', x ∈ aF av ∨ x = w.heap.size) → wpList P ops Q rest (a.put o.dst (.slice a' (n + m) c')) w') : wpList P ops Q (o :: rest) a w :=
  wpList_plain hgd fun _ hK => wp_append_rd T ho hs hown hx hrd h1 hn h63 fun a' c' w' h2 h3 h4 => hK _ _ (h a' c' w' h2 h3 h4)

theorem step_append_rd {P : Program} {ops : Array Oper} {o : Oper} {a : Act} {w : World} {K : Act → World → Prop} {Q : Exit → Act → World → Prop} {E : Prop} {t e : TypeId} {i : TypeInfo} {z : Value} {size bytes : Nat} (T : SlT P t e i z size bytes) (hgd : o.guard = none) {s x : Operand}
    (ho : o.op = .call { callee := .builtin .append, args := #[s, x], argTypes := #[t, t] }) {av : Option Addr} {n cv : Nat} {xs : List Value} (hs : a.eval s = .slice av n cv) (hown : w.ownsRow 0 e size (.slice av n cv) n xs)
    {ax : Option Addr} {m c : Nat} {news : List Value} (hx : a.eval x = .slice ax m c) (hrd : Rd w ax m c size news) (h1 : ∀ u ∈ news, u.oneCell' = true) (hn : (n + m) * bytes ≤ 140737488355328) (h63 : n + m ≤ maxLen)
    (h : ∀ a' c' w', w'.ownsRow 0 e size (.slice a' (n + m) c') (n + m) (xs ++ news) → w.grownBy w' (Value.ownBlock (.slice av n cv)) → (∀ x ∈ aF a', x ∈ aF av ∨ x = w.heap.size) → K (a.put o.dst (.slice a' (n + m) c')) w') :
    if Region.wanted o (yielded ops a.tmps) = true then Oper.wp P o a w K Q else E := by
  have hw : Region.wanted o (yielded ops a.tmps) = true := by simp [Region.wanted, hgd]
  rw [if_pos hw]
  exact wp_append_rd T ho hs hown hx hrd h1 hn h63 h

/-- What lies whole in a new block. -/
theorem rd_block {w : World} {B m size : Nat} {cs : Array Value} {et : TypeId} {fr : Nat × Nat} (hB : w.heap[B]? = some (.cells cs et fr)) (hl : cs.size = m * size) (hm : m ≤ maxLen) : Rd w (some ⟨B, 0, none⟩) m m size cs.toList :=
  ⟨by simpa using hl, Nat.le_refl _, hm, by simp, fun j u hu => ⟨_, rfl, World.news_of_block hB j u hu⟩⟩
theorem rd_alloc {w : World} {m size : Nat} {cs : Array Value} {et : TypeId} (hl : cs.size = m * size) (hm : m ≤ maxLen) : Rd (w.alloc (.cells cs et)) (some ⟨w.heap.size, 0, none⟩) m m size cs.toList :=
  rd_block (heap_alloc_new w _) hl hm

theorem setRow_kp (w : World) (g : Nat) (cs : Array Value) : Kp [g] w (w.setRow g cs) :=
  ⟨rfl, rfl, rfl, by simp, fun k _ hF => setRow_other w g k cs (by simpa using hF)⟩

/-- 'copy' into a block that is known whole, cells of one. -/
theorem wp_copy_rd {P : Program} {o : Oper} {a : Act} {w : World} {K : Act → World → Prop} {Q : Exit → Act → World → Prop} {d s : Operand} {dT sT elem : TypeId}
    (ho : o.op = .call { callee := .builtin .copy, args := #[d, s], argTypes := #[dT, sT] }) (hu : P.underlying dT = some (.slice elem)) (hsz : (P.info? elem).map (·.size) = some 1)
    {g off dLen dCap sLen sCap : Nat} {sp : Option Addr} {xs : List Value} (hd : a.eval d = .slice (some ⟨g, off, none⟩) dLen dCap) (hs : a.eval s = .slice sp sLen sCap) (hrd : Rd w sp sLen sCap 1 xs)
    {cur : Array Value} {t : TypeId} (hg : w.heap[g]? = some (.cells cur t (0, 0))) (hfit : off + min sLen dLen ≤ cur.size) (h1 : ∀ v ∈ xs, v.oneCell' = true)
    (h : ∀ w', w'.heap[g]? = some (.cells (splice cur.toList off (xs.take (min sLen dLen))).toArray t (0, 0)) → Kp [g] w w' → w'.heap.size = w.heap.size → K (a.put o.dst (goInt (min sLen dLen : Nat))) w') : o.wp P a w K Q := by
  have hxl := hrd.len
  by_cases h0 : min sLen dLen = 0
  · have hrun := run_copy_none (P := P) w dT sT o.type elem (some ⟨g, off, none⟩) sp dLen dCap sLen sCap hu hsz h0
    unfold Oper.wp
    simp [execOp, ho, resolve, invoke, builtin, hd, hs, hrun, Result.andThen]
    have hh := h w (by rw [h0]; simpa [splice] using hg) (Kp.refl _ _) rfl
    rw [h0] at hh
    exact hh
  · have hl : (xs.take (min sLen dLen)).length = min sLen dLen := by rw [List.length_take]; omega
    obtain ⟨b, o2, rfl, _, hc⟩ := hrd.spot (by omega)
    have hrun := run_copy_row (P := P) w dT sT o.type elem g off dLen dCap ⟨b, o2, none⟩ sLen sCap cur t (xs.take (min sLen dLen)) hu hsz hg hl
      (fun j v hj => by rw [Addr.add_mid]; rw [List.getElem?_take] at hj; split at hj; exact hc j v hj; cases hj) (by rw [hl]; exact hfit) (fun v hv => h1 v (List.mem_of_mem_take hv))
    rw [hl] at hrun
    have hh := h _ (by rw [setRow_heap w g _ _ t _ hg]; simp only [splice, hl, List.append_assoc]) (setRow_kp w g (cur.toList.take off ++ xs.take (min sLen dLen) ++ cur.toList.drop (off + min sLen dLen)).toArray) (by simp)
    unfold Oper.wp execOp
    simp only [ho, resolve, invoke, builtin, Sem.run_bind, Sem.run_pure, Result.andThen_ok, List.map_toArray, List.map_cons, List.map_nil, hd, hs, hrun]
    exact hh

theorem step_copy_rd {P : Program} {ops : Array Oper} {o : Oper} {a : Act} {w : World} {K : Act → World → Prop} {Q : Exit → Act → World → Prop} {E : Prop} (hgd : o.guard = none) {d s : Operand} {dT sT elem : TypeId}
    (ho : o.op = .call { callee := .builtin .copy, args := #[d, s], argTypes := #[dT, sT] }) (hu : P.underlying dT = some (.slice elem)) (hsz : (P.info? elem).map (·.size) = some 1)
    {g off dLen dCap sLen sCap : Nat} {sp : Option Addr} {xs : List Value} (hd : a.eval d = .slice (some ⟨g, off, none⟩) dLen dCap) (hs : a.eval s = .slice sp sLen sCap) (hrd : Rd w sp sLen sCap 1 xs)
    {cur : Array Value} {t : TypeId} (hg : w.heap[g]? = some (.cells cur t (0, 0))) (hfit : off + min sLen dLen ≤ cur.size) (h1 : ∀ v ∈ xs, v.oneCell' = true)
    (h : ∀ w', w'.heap[g]? = some (.cells (splice cur.toList off (xs.take (min sLen dLen))).toArray t (0, 0)) → Kp [g] w w' → w'.heap.size = w.heap.size → K (a.put o.dst (goInt (min sLen dLen : Nat))) w') :
    if Region.wanted o (yielded ops a.tmps) = true then Oper.wp P o a w K Q else E := by
  have hw : Region.wanted o (yielded ops a.tmps) = true := by simp [Region.wanted, hgd]
  rw [if_pos hw]
  exact wp_copy_rd ho hu hsz hd hs hrd hg hfit h1 h

theorem wpList_copy_rd {P : Program} {ops : Array Oper} {rest : List Oper} {o : Oper} {a : Act} {w : World} {Q : Exit → Act → World → Prop} (hgd : o.guard = none) {d s : Operand} {dT sT elem : TypeId}
    (ho : o.op = .call { callee := .builtin .copy, args := #[d, s], argTypes := #[dT, sT] }) (hu : P.underlying dT = some (.slice elem)) (hsz : (P.info? elem).map (·.size) = some 1)
    {g off dLen dCap sLen sCap : Nat} {sp : Option Addr} {xs : List Value} (hd : a.eval d = .slice (some ⟨g, off, none⟩) dLen dCap) (hs : a.eval s = .slice sp sLen sCap) (hrd : Rd w sp sLen sCap 1 xs)
    {cur : Array Value} {t : TypeId} (hg : w.heap[g]? = some (.cells cur t (0, 0))) (hfit : off + min sLen dLen ≤ cur.size) (h1 : ∀ v ∈ xs, v.oneCell' = true)
    (h : ∀ w', w'.heap[g]? = some (.cells (splice cur.toList off (xs.take (min sLen dLen))).toArray t (0, 0)) → Kp [g] w w' → w'.heap.size = w.heap.size → wpList P ops Q rest (a.put o.dst (goInt (min sLen dLen : Nat))) w') : wpList P ops Q (o :: rest) a w :=
  wpList_plain hgd fun _ hK => wp_copy_rd ho hu hsz hd hs hrd hg hfit h1 fun w' h2 h3 h4 => hK _ _ (h w' h2 h3 h4)

def bcell (b : UInt8) : Value := .int .u8 b.toNat
def bcs (l : List UInt8) : List Value := l.map bcell
theorem bcs_app (a b : List UInt8) : bcs (a ++ b) = bcs a ++ bcs b := by simp [bcs]
theorem bcs_length (l : List UInt8) : (bcs l).length = l.length := by simp [bcs]
theorem bcs_one (l : List UInt8) : ∀ u ∈ bcs l, u.oneCell' = true := by
  intro u hu; simp [bcs] at hu; obtain ⟨b, _, rfl⟩ := hu; rfl
theorem bcs_take (l : List UInt8) (n : Nat) : (bcs l).take n = bcs (l.take n) := by simp [bcs]
theorem bcs_drop (l : List UInt8) (n : Nat) : (bcs l).drop n = bcs (l.drop n) := by simp [bcs]

/-- 'string(b)'. -/
theorem conv_string {P : Program} {w : World} {src dst e : TypeId} (hs : P.underlying src = some (.slice e)) (he : P.underlying e = some (.int .u8)) (hd : P.underlying dst = some .string)
    {a : Option Addr} {c : Nat} {l : List UInt8} (h : Rd w a l.length c 1 (bcs l)) : (convert src dst (.slice a l.length c)).run P w = .ok (.string ⟨l.toArray⟩) w := by
  cases a with
  | none =>
    have hc := h.nil rfl
    have hl : l = [] := List.eq_nil_of_length_eq_zero (by have := h.le; omega)
    subst hl hc
    rw [List.length_nil, run_convert_bytes_string w src dst e none 0 0 hs he hd]
    simp [Conv.bytesToString]
    rfl
  | some ad =>
    refine run_convert_bytes_back w src dst e ad c l hs he hd fun j hj => ?_
    obtain ⟨b, hb, hc⟩ := h.cells j (bcell l[j]) (by simp [bcs, hj])
    simp only [Option.some.injEq] at hb
    subst hb
    exact hc

/-! ### A slice's literal -/
def flatV (vs : List Value) : List Value := vs.flatMap fun v => v.cells.toList
theorem put_at (off : Nat) (cs : List Value) : ∀ (k : Nat) (A : Array Value), off + k + cs.length ≤ A.size →
    ((cs.zipIdx k).foldl (fun (B : Array Value) (p : Value × Nat) => B.setIfInBounds (off + p.2) p.1) A).toList = A.toList.take (off + k) ++ cs ++ A.toList.drop (off + k + cs.length) := by
  induction cs with
  | nil => intro k A _; simp
  | cons c cs ih =>
    intro k A h
    rw [List.length_cons] at h
    rw [List.zipIdx_cons, List.foldl_cons, ih (k + 1) _ (by simp; omega)]
    have hlt : off + k < A.toList.length := by simp; omega
    simp only [Array.toList_setIfInBounds, List.length_cons]
    rw [show off + (k + 1) = (off + k) + 1 by omega, List.take_succ_eq_append_getElem (by simpa using hlt), List.getElem_set_self, List.take_set_of_le (by omega), List.drop_set_of_lt (by omega)]
    rw [show off + k + 1 + cs.length = off + k + (cs.length + 1) by omega]
    simp
theorem fill_all (size : Nat) (vs : List Value) : ∀ (k : Nat) (A : Array Value), (∀ v ∈ vs, v.cells.size = size) → (k + vs.length) * size ≤ A.size →
    Instr.fill (fun i => some (i * size, size)) A ((vs.zipIdx k).map fun p => (p.2, p.1)) = some (A.toList.take (k * size) ++ flatV vs ++ A.toList.drop ((k + vs.length) * size)).toArray := by
  induction vs with
  | nil => intro k A _ h; simp [Instr.fill, flatV]
  | cons v vs ih =>
    intro k A hv h
    have hvs : v.cells.size = size := hv v (by simp)
    have hk : (k + 1) * size ≤ (k + (vs.length + 1)) * size := Nat.mul_le_mul_right _ (by omega)
    have hk1 : (k + 1) * size = k * size + size := Nat.succ_mul k size
    rw [List.length_cons] at h
    rw [List.zipIdx_cons, List.map_cons, Instr.fill]
    simp only [ne_eq, hvs, not_true_eq_false, decide_false, Bool.false_or, decide_eq_true_eq]
    rw [if_neg (by omega)]
    have hf : (v.cells.zipIdx.foldl (fun (cs : Array Value) (p : Value × Nat) => cs.setIfInBounds (k * size + p.2) p.1) A) = (A.toList.take (k * size) ++ v.cells.toList ++ A.toList.drop (k * size + v.cells.toList.length)).toArray := by
      have := put_at (k * size) v.cells.toList 0 A (by simp; omega)
      apply Array.ext'
      rw [← Array.foldl_toList, Array.toList_zipIdx, this]
      simp
    refine (congrArg (fun X => Instr.fill (fun i => some (i * size, size)) X ((vs.zipIdx (k + 1)).map fun p => (p.2, p.1))) hf).trans ?_
    have hvl : v.cells.toList.length = size := by simpa using hvs
    have hAl : A.toList.length = A.size := by simp
    have hl : (A.toList.take (k * size) ++ v.cells.toList).length = (k + 1) * size := by rw [List.length_append, List.length_take, hvl, hAl]; omega
    have hsum : (k + 1 + vs.length) * size = (k + (vs.length + 1)) * size := by rw [show k + 1 + vs.length = k + (vs.length + 1) by omega]
    refine (ih (k + 1) _ (fun u hu => hv u (by simp [hu])) ?_).trans ?_
    · rw [List.size_toArray, List.length_append, hl, List.length_drop, hvl, hAl, hsum]; omega
    · rw [hsum]
      congr 2
      rw [List.toList_toArray, ← hl, List.take_left, List.drop_append, List.drop_eq_nil_of_le (by rw [hl]; exact hk), hl, List.nil_append, List.drop_drop, hvl]
      rw [show k * size + size + ((k + (vs.length + 1)) * size - (k + 1) * size) = (k + (vs.length + 1)) * size by omega]
      simp [flatV, List.append_assoc]

theorem run_buildSlice_all {P : Program} {w : World} {t e : TypeId} {i : TypeInfo} {z : Value} {size bytes : Nat} (T : SlT P t e i z size bytes) (vs : List Value) (hv : ∀ v ∈ vs, v.cells.size = size) (hb : vs.length * size ≤ 16777216) :
    (Instr.buildSlice t vs.length ((vs.zipIdx 0).map fun p => (p.2, p.1)).toArray).run P w = .ok (.slice (some ⟨w.heap.size, 0, none⟩) vs.length vs.length) (w.alloc (.cells (flatV vs).toArray e)) := by
  have hz : ∀ w, (zeroValue e).run P w = .ok z w := fun w => by simp [zeroValue, typeInfo, T.hi, T.hz]
  have hf := fill_all size vs 0 ((Array.range (vs.length * size)).map (z.cells[· % z.cells.size]!)) hv (by simp)
  have hf0 : vs.length * size = 0 → Instr.fill (fun i => some (i * size, size)) ((Array.range 0).map fun _ => (default : Value)) ((vs.zipIdx 0).map fun p => (p.2, p.1)) = some (flatV vs).toArray := by
    intro h0
    have := fill_all size vs 0 ((Array.range 0).map fun _ => (default : Value)) hv (by simp [h0])
    simpa using this
  simp only [Nat.zero_mul, List.take_zero, List.nil_append, Nat.zero_add] at hf
  rw [List.drop_eq_nil_of_le (by simp), List.append_nil] at hf
  have hn : ¬ vs.length * size > 2 ^ 24 := by omega
  by_cases h0 : vs.length * size = 0
  · simp [Instr.buildSlice, run_underlying T.u, sizeOf, typeInfo, T.hi, T.s, h0, newRow]
    rw [hf0 h0]
    simp
  · simp [Instr.buildSlice, run_underlying T.u, sizeOf, typeInfo, T.hi, T.s, h0, hn, hz, newRow]
    rw [hf]
    simp

/-- A slice's literal whose parts are written out. -/
theorem wpList_lit {P : Program} {ops : Array Oper} {rest : List Oper} {o : Oper} {a : Act} {w : World} {Q : Exit → Act → World → Prop} {t e : TypeId} {i : TypeInfo} {z : Value} {size bytes : Nat} (T : SlT P t e i z size bytes) (hgd : o.guard = none)
    {n : Nat} {parts : Array (Nat × Operand)} (ho : o.op = .buildSlice t n parts) (vs : List Value) (hn : n = vs.length) (hp : (parts.map fun (i, x) => (i, a.eval x)) = ((vs.zipIdx 0).map fun p => (p.2, p.1)).toArray)
    (hv : ∀ v ∈ vs, v.cells.size = size) (hb : vs.length * size ≤ 16777216)
    (h : wpList P ops Q rest (a.put o.dst (.slice (some ⟨w.heap.size, 0, none⟩) n n)) (w.alloc (.cells (flatV vs).toArray e))) : wpList P ops Q (o :: rest) a w := by
  refine wpList_plain hgd fun K hK => ?_
  have hr := run_buildSlice_all (w := w) T vs hv hb
  unfold Oper.wp execOp
  simp only [ho, hp, hn, Sem.run_bind, Sem.run_pure, Result.andThen_ok, hr]
  subst hn
  exact hK _ _ h

/-- An array's type: so many cells. -/
structure ArT (P : Program) (t : TypeId) (n : Nat) : Prop where
  u : ∃ k e, P.underlying t = some (.array k e)
  s : (P.info? t).map (·.size) = some n

theorem wpList_get {P : Program} {ops : Array Oper} {rest : List Oper} {o : Oper} {a : Act} {w : World} {Q : Exit → Act → World → Prop} {ty : TypeId} {n : Nat} (T : ArT P ty n) (hgd : o.guard = none) {x : Operand} (ho : o.op = .load ty x)
    {g : Nat} {t : TypeId} {cs : Array Value} {fr : Nat × Nat} (hg : w.heap[g]? = some (.cells cs t fr)) (hn : cs.size = n) (hx : a.eval x = .pointer (some ⟨g, 0, none⟩))
    (h : wpList P ops Q rest (a.put o.dst (.agg cs)) w) : wpList P ops Q (o :: rest) a w := by
  obtain ⟨⟨k, e, hu⟩, hs⟩ := T
  exact wpList_load_row hgd ty x ho g hx t cs fr _ hg hu rfl (by rw [hs, hn]) h
/-- An array out of the middle of a block. -/
theorem wpList_get_mid {P : Program} {ops : Array Oper} {rest : List Oper} {o : Oper} {a : Act} {w : World} {Q : Exit → Act → World → Prop} {ty : TypeId} {n : Nat} (T : ArT P ty n) (hgd : o.guard = none) {x : Operand} (ho : o.op = .load ty x)
    {b off : Nat} {cs : List Value} (hc : w.rangeAt b off cs) (hn : cs.length = n) (hx : a.eval x = .pointer (some ⟨b, off, none⟩))
    (h : wpList P ops Q rest (a.put o.dst (.agg cs.toArray)) w) : wpList P ops Q (o :: rest) a w := by
  obtain ⟨⟨k, e, hu⟩, hs⟩ := T
  exact wpList_load_mid hgd ty x ho b off hx cs _ hc hu rfl (by rw [hs, hn]) h
theorem wpList_set {P : Program} {ops : Array Oper} {rest : List Oper} {o : Oper} {a : Act} {w : World} {Q : Exit → Act → World → Prop} {ty : TypeId} {n : Nat} (T : ArT P ty n) (hgd : o.guard = none) {x y : Operand} (ho : o.op = .store ty x y)
    {g : Nat} {t : TypeId} {old cs : Array Value} (hg : w.heap[g]? = some (.cells old t (0, 0))) (ho1 : old.size = n) (hn : cs.size = n) (h1 : ∀ v ∈ cs.toList, v.oneCell' = true) (hx : a.eval x = .pointer (some ⟨g, 0, none⟩)) (hy : a.eval y = .agg cs)
    (h : ∀ w', w'.heap[g]? = some (.cells cs t (0, 0)) → Kp [g] w w' → w'.heap.size = w.heap.size → wpList P ops Q rest (a.put o.dst undef) w') : wpList P ops Q (o :: rest) a w := by
  refine wpList_store_row hgd ty x y ho g cs hx hy t old hg (by rw [T.s, hn]) (by omega) (Array.all_eq_true_iff_forall_mem.2 fun v hv => h1 v (by simpa using hv)) ?_
  exact h _ (setRow_heap w g _ _ t _ hg) (setRow_kp _ _ _) (by simp)
/-- The end of a function whose one result lies in a block. -/
theorem ret_block {P : Program} {fn : Func} {R : Ending → World → Prop} {a : Act} {w : World} {p : Tmp} {ty : TypeId} {n : Nat} (T : ArT P ty n) (hf : fn.results = #[.cell p ty])
    {g : Nat} {t : TypeId} {cs : Array Value} {fr : Nat × Nat} (hg : w.heap[g]? = some (.cells cs t fr)) (hn : cs.size = n) (hp : a.tmps.getD p undef = .pointer (some ⟨g, 0, none⟩)) (hd : a.defers = []) (hR : R (.returned (.agg cs)) w) : bodyPost P fn R .ret a w := by
  obtain ⟨⟨k, e, hu⟩, hs⟩ := T
  exact bodyPost_ret (results_cell_row hf a.tmps w g t cs fr _ hp hg hu rfl (by rw [hs, hn])) hd hR

abbrev Hsh := { l : List UInt8 // l.length = 32 }
def hcs (h : Hsh) : List Value := bcs h.1
def hvA (h : Hsh) : Array Value := (hcs h).toArray
abbrev hv (h : Hsh) : Value := .agg (hvA h)
def zeroH : Hsh := ⟨List.replicate 32 0, by simp⟩
def toH (l : List UInt8) : Hsh := if h : l.length = 32 then ⟨l, h⟩ else zeroH
def hsc (l : List Hsh) : List Value := l.flatMap hcs
theorem hcs_length (h : Hsh) : (hcs h).length = 32 := by simp [hcs, bcs, h.2]
theorem hvA_size (h : Hsh) : (hvA h).size = 32 := by simp [hvA, hcs_length]
theorem hcs_one (h : Hsh) : ∀ u ∈ hcs h, u.oneCell' = true := bcs_one _
theorem hvA_one (h : Hsh) : ∀ u ∈ (hvA h).toList, u.oneCell' = true := by simpa [hvA] using hcs_one h
theorem hsc_length (l : List Hsh) : (hsc l).length = l.length * 32 := by
  induction l with
  | nil => rfl
  | cons h l ih => simp only [hsc, List.flatMap_cons, List.length_append, hcs_length, List.length_cons] at *; omega
theorem hsc_snoc (l : List Hsh) (h : Hsh) : hsc (l ++ [h]) = hsc l ++ hcs h := by simp [hsc]
theorem hsc_app (l m : List Hsh) : hsc (l ++ m) = hsc l ++ hsc m := by simp [hsc]
theorem hsc_one (l : List Hsh) : ∀ u ∈ hsc l, u.oneCell' = true := by
  intro u hu; simp only [hsc, List.mem_flatMap] at hu; obtain ⟨h, _, hu⟩ := hu; exact hcs_one h u hu
theorem hv_cells (h : Hsh) : (hv h).cells = hvA h := rfl
theorem flatV_hv (l : List Hsh) : flatV (l.map hv) = hsc l := by
  induction l with
  | nil => rfl
  | cons h l ih => simp only [flatV, hsc, List.map_cons, List.flatMap_cons] at *; rw [ih, hv_cells]; rfl
theorem flatV_one (h : Hsh) : flatV [hv h] = hcs h := by simpa [hsc] using flatV_hv [h]
theorem hvs_size (l : List Hsh) : ∀ v ∈ l.map hv, v.cells.size = 32 := by
  intro v h; simp only [List.mem_map] at h; obtain ⟨x, _, rfl⟩ := h; exact hvA_size x
/-- Where a list's hash lies. -/
theorem hsc_at (l : List Hsh) (k : Nat) (hk : k < l.length) : ∀ j u, (hcs l[k])[j]? = some u → (hsc l)[k * 32 + j]? = some u := by
  intro j u hu
  have hj : j < 32 := by have := (List.getElem?_eq_some_iff.1 hu).1; rw [hcs_length] at this; exact this
  have e : l = l.take k ++ l[k] :: l.drop (k + 1) := by rw [List.getElem_cons_drop hk, List.take_append_drop]
  have e2 : hsc l = hsc (l.take k) ++ (hcs l[k] ++ hsc (l.drop (k + 1))) := (congrArg hsc e).trans (by rw [hsc_app]; rfl)
  have hl : (hsc (l.take k)).length = k * 32 := by rw [hsc_length, List.length_take]; congr 1; omega
  rw [e2, List.getElem?_append_right (by omega), hl, show k * 32 + j - k * 32 = j by omega, List.getElem?_append_left (by rw [hcs_length]; exact hj)]
  exact hu
theorem splice_full {α : Type} (cur xs : List α) (h : cur.length = xs.length) : splice cur 0 xs = xs := by simp [splice, h]
theorem splice_none {α : Type} (cur : List α) (k : Nat) : splice cur k [] = cur := by simp [splice]
theorem toH_of (l : List UInt8) (h : l.length = 32) : (toH l).1 = l := by simp [toH, h]
/-- The zero array, as the walk writes it. -/
theorem zeroH_lit : (#[Value.int IntKind.u8 0, Value.int IntKind.u8 0, Value.int IntKind.u8 0, Value.int IntKind.u8 0, Value.int IntKind.u8 0, Value.int IntKind.u8 0, Value.int IntKind.u8 0, Value.int IntKind.u8 0, Value.int IntKind.u8 0, Value.int IntKind.u8 0, Value.int IntKind.u8 0, Value.int IntKind.u8 0, Value.int IntKind.u8 0, Value.int IntKind.u8 0, Value.int IntKind.u8 0, Value.int IntKind.u8 0, Value.int IntKind.u8 0, Value.int IntKind.u8 0, Value.int IntKind.u8 0, Value.int IntKind.u8 0, Value.int IntKind.u8 0, Value.int IntKind.u8 0, Value.int IntKind.u8 0, Value.int IntKind.u8 0, Value.int IntKind.u8 0, Value.int IntKind.u8 0, Value.int IntKind.u8 0, Value.int IntKind.u8 0, Value.int IntKind.u8 0, Value.int IntKind.u8 0, Value.int IntKind.u8 0, Value.int IntKind.u8 0] : Array Value) = hvA zeroH := rfl

end Go.Proofs.YtgfppmnpccaloaaDoor
